/- Layer 18: code without arguments of else. -/
import Derived.Test.YtcnbljohhajkhaaWo
import Derived.Test.YtcnbljohhajkhaaWn
namespace Go.Proofs.Ytcnbljohhajkhaa
open Go.RowKit
set_option linter.unusedVariables false
set_option linter.unusedSimpArgs false
attribute [local go_sem ↓] Go.wp_at_zero Go.wp_at_succ

/-- The first k instructions of code, written plainly. -/
def plK (C : List (Int × Int)) : Nat → List (Int × Int)
  | 0 => []
  | k + 1 => plK C k ++ (if opAt C k = 28 then (if k + 1 < C.length ∧ opAt C (k + 1) = 31 then [] else [(28, 0)]) else [C.getD k (0, 0)])
theorem plK_len (C : List (Int × Int)) (k : Nat) : (plK C k).length ≤ k := by
  induction k with
  | zero => simp [plK]
  | succ k ih =>
    simp only [plK, List.length_append]
    split
    · split
      · simp; omega
      · simp; omega
    · simp; omega
theorem plK_all (C : List (Int × Int)) : ∀ (k : Nat) (D : List (Int × Int)), C.drop k = D → k ≤ C.length → plK C k ++ plF D = plK C C.length := by
  intro k D
  induction D generalizing k with
  | nil =>
    intro h hk
    have : C.length ≤ k := List.drop_eq_nil_iff.1 h
    obtain rfl : k = C.length := by omega
    simp [plF]
  | cons x t ih =>
    intro h hk
    obtain ⟨h1, h2, h3⟩ := op_drop h
    have h4 := ih (k + 1) h3 (by omega)
    rw [← h4]
    have hx : C.getD k (0, 0) = x := by
      have : C = C.take k ++ x :: t := by rw [← h, List.take_append_drop]
      exact getD_op this (by simp; omega)
    simp only [plK, plF]
    rw [h2, hx]
    by_cases h28 : x.1 = 28
    · rw [if_pos h28, if_pos h28]
      have hiff : (k + 1 < C.length ∧ opAt C (k + 1) = 31) ↔ t.head?.map (fun y => y.1) = some 31 := by
        cases t with
        | nil =>
          have : C.length ≤ k + 1 := List.drop_eq_nil_iff.1 h3
          simp; omega
        | cons y u =>
          obtain ⟨g1, g2, -⟩ := op_drop h3
          simp [g1, g2]
      by_cases h31 : k + 1 < C.length ∧ opAt C (k + 1) = 31
      · rw [if_pos h31, if_pos (hiff.1 h31)]; simp
      · rw [if_neg h31, if_neg (fun h => h31 (hiff.2 h))]; simp
    · rw [if_neg h28, if_neg h28]; simp
set_option maxHeartbeats 2000000 in
set_option maxRecDepth 100000 in
theorem plain_any (v : Value) (C : List (Int × Int)) (w : World) (h : Code18 w v C) (hl : C.length ≤ 2000) :
    Calls Try.prog 21 #[v] w fun x w' => ∃ v', x = .returned v' ∧ OwnC w' w.heap.size v' (plF C) ∧ Ext w w' := by
  obtain ⟨n, hn⟩ : ∃ n, C.length = n := ⟨_, rfl⟩
  obtain ⟨a, cap, rfl, hcap, -⟩ := Rd.shape h
  have hR := hidden h
  rw [hn] at hR hl hcap ⊢
  replace hn := hidden hn
  obtain ⟨i0, hi, hz0, hz1, hz2⟩ := info_parts insinfo
  have hia := hidden hi
  clear h hi
  go_enter Try.func21, Try.ntmps21
  go_wp2_with fail
  go_loopw [3, 8] (fun vo ix wr => ∃ (k : Nat), k ≤ n ∧ ix = .int .i64 (k : Int) ∧ Hid (OwnC wr w.heap.size vo (plK C k)) ∧ Hid (Ext w wr)) (fun _ ix _ => (n - intOf ix).toNat)
  case atStart => exact ⟨0, by omega, rfl, ⟨by simp [plK], Or.inl ⟨rfl, rfl⟩⟩, Ext.refl w⟩
  case round =>
    obtain ⟨k, hk, rfl, hO, hX⟩ := hrel
    obtain ⟨W, hWW⟩ : ∃ Z, Z = wr := ⟨_, rfl⟩
    subst hWW
    by_cases hlt : k < n
    · have hlt' : (k : Int) < (n : Int) := by omega
      obtain ⟨b, off, rfl, -, -⟩ := Rd.cells (cs := C.flatMap icell) (w := w) (sz := 2) (by have := hR.out; unfold Code18 at this; rw [hn.out] at this; exact this) (show 0 < n by omega)
      obtain ⟨x0, x1⟩ := code_at2 hR.out k (by rw [hn.out]; exact hlt)
      replace x0 := hX.out.cell x0
      replace x1 := hX.out.cell x1
      have hst : plK C (k + 1) = plK C k ++ (if opAt C k = 28 then (if k + 1 < n ∧ opAt C (k + 1) = 31 then [] else [(28, 0)]) else [C.getD k (0, 0)]) := by rw [← hn.out]; rfl
      have hol : opAt C k = (C.getD k (0, 0)).1 := rfl
      rw [hol] at hst
      generalize C.getD k (0, 0) = c at x0 x1 hst
      obtain ⟨u, z⟩ := c
      simp only at x0 x1 hst
      have hll := plK_len C k
      obtain ⟨lk, hlke⟩ : ∃ lk, plK C k = lk := ⟨_, rfl⟩
      rw [hlke] at hO hst hll
      replace hlke := hidden hlke
      have hkw : IntKind.i64.wrap ((k : Int) + 1) = (k : Int) + 1 := IntWalk.i64_in _ (by omega)
      have X1 := (Ext.refl W).alloc (.cells #[.int .i64 u, .int .u32 z] 45)
      have N1 := Blk.new W [.int .i64 u, .int .u32 z] 45
      obtain ⟨q, hq⟩ : ∃ q, W.heap.size = q := ⟨_, rfl⟩
      have hws := hX.out.size
      rw [hq] at N1 hws
      obtain ⟨W1, hW1⟩ : ∃ W1, W.alloc (.cells #[.int .i64 u, .int .u32 z] 45) = W1 := ⟨_, rfl⟩
      rw [hW1] at X1 N1
      have HX1 := hX.out.trans X1
      have HO1 := own_ext hO.out X1
      have c0 := N1.cell 0 _ rfl
      have c1 := N1.cell 1 _ rfl
      have cf := N1.frozen 1
      replace hq := hidden hq
      replace hW1 := hidden hW1
      go_upto_if 15 with fail
      rw [hW1.out, hq.out]
      go_cut [3] from 16 to 31 (fun vo wx => ∃ (wz : World) (z' : Int), wx = wz ∧ vo = u3 ∧ Hid (plK C (k + 1) = lk ++ [(u, z')]) ∧ Hid (Blk wz q 45 [.int .i64 u, .int .u32 z']) ∧ Hid (OwnC wz w.heap.size u3 lk) ∧ Hid (Ext w wz))
      case first =>
        by_cases hu : u = 28
        · subst hu
          rw [if_pos rfl] at hst
          have hXs : Ext w (W1.setCell ⟨q, 1, none⟩ (.int .u32 0)) := ((Chg.of_ext [] HX1).setCell (p := ⟨q, 1, none⟩) (Or.inr hws) _).ext
          have hOs : OwnC (W1.setCell ⟨q, 1, none⟩ (.int .u32 0)) w.heap.size u3 lk := own_chg HO1 ((Chg.refl [q] W1).setCell (Or.inl (by simp)) _) (fun x hx e => by simp at hx; subst hx; have := (own_lt hO.out e).2; have := hq.out; omega)
          have hNs := N1.set 1 (.int .u32 0)
          replace N1 := hidden N1
          replace hXs := hidden hXs
          replace hOs := hidden hOs
          replace hNs := hidden hNs
          replace HX1 := hidden HX1
          replace HO1 := hidden HO1
          by_cases hk1 : k + 1 < n
          · have hk1' : decide ((k : Int) + 1 < (n : Int)) = true := by simp; omega
            have hk2 : (k : Int) + 1 < (n : Int) := by omega
            have hk3 : ((k : Int) + 1).toNat = k + 1 := by omega
            obtain ⟨y0, -⟩ := code_at hR.out (k + 1) (by rw [hn.out]; exact hk1)
            obtain ⟨y, hy⟩ : ∃ y, opAt C (k + 1) = y := ⟨_, rfl⟩
            replace y0 := (hX.out.trans X1).cell y0
            rw [hy] at y0 hst
            by_cases hy31 : y = 31
            · subst hy31
              rw [if_pos ⟨hk1, rfl⟩, List.append_nil] at hst
              replace hst := hidden hst
              go_wp2_with fail
              go_roundw
              case rel => exact ⟨k + 1, by omega, by go_num, hidden (by rw [hst.out]; exact HO1.out), HX1⟩
              case measure => simp [intOf]; omega
            · have hy' : (y == 31) = false := by simp; exact hy31
              rw [if_neg (fun h => hy31 h.2)] at hst
              replace hst := hidden hst
              go_wp2_with fail
              go_meet
              exact ⟨_, 0, rfl, rfl, hst, hNs, hOs, hXs⟩
          · have hk1' : decide ((k : Int) + 1 < (n : Int)) = false := by simp; omega
            rw [if_neg (fun h => hk1 h.1)] at hst
            replace hst := hidden hst
            go_wp2_with fail
            go_meet
            exact ⟨_, 0, rfl, rfl, hst, hNs, hOs, hXs⟩
        · have hu' : (u == 28) = false := by simp; exact hu
          rw [if_neg hu] at hst
          replace hst := hidden hst
          go_wp2_with fail
          go_meet
          exact ⟨W1, z, rfl, rfl, hst, N1, HO1, HX1⟩
      case rest =>
        obtain ⟨W2, z', hW2, rfl, hst, N2, HO2, HX2⟩ := hcut
        rw [hW2]
        clear hW2 c0 c1 cf x0 x1
        have c0 := N2.out.cell 0 _ rfl
        have c1 := N2.out.cell 1 _ rfl
        have HO := hidden (show (W2.alloc (.cells #[.int .i64 u, .int .u32 z'] 45)).ownsRow w.heap.size 45 2 u3 lk.length (lk.flatMap icell) from own_ext HO2.out ((Ext.refl W2).alloc _))
        have hws2 := HX2.out.size
        go_wp2_with (at_builtin; refine wpList_append_rd (by rfl) _ _ 22 (by rfl) w.heap.size 45 i0 (.agg #[.int .i64 0, .int .u32 0]) 2 16 Try.underlying22 hia.out hz0 hz1 hz2 rfl (by decide) u3 lk.length (lk.flatMap icell) (by rfl) HO.out (some ⟨W2.heap.size, 0, none⟩) 1 1 [.int .i64 u, .int .u32 z'] (by rfl) (rd_new1 W2 (.int .i64 u) (.int .u32 z') 45) (by simp [Value.oneCell']) (by unfold maxLen; omega) (by omega) (by simp; omega) ?_; intro v' w4 hown4 hgrow4 hat4)
        have hO4 : OwnC w4 w.heap.size v' (lk ++ [(u, z')]) := by
          unfold OwnC
          rw [List.length_append, List.flatMap_append]
          exact hown4
        have hX4 : Ext w w4 := ((Chg.of_ext [] (HX2.out.alloc (.cells #[.int .i64 u, .int .u32 z'] 45))).grown hgrow4 (fun k hk => Or.inr (own_lt HO.out hk).1)).ext
        go_roundw
        case rel => exact ⟨k + 1, by omega, by go_num, hidden (by rw [hst.out]; exact hO4), hX4⟩
        case measure => simp [intOf]; omega
    · obtain rfl : k = n := by omega
      go_wp2_with fail
      go_ret
      have := hO.out
      have h2 := plK_all C 0 C (by simp) (Nat.zero_le _)
      rw [hn.out] at h2
      simp only [plK, List.nil_append] at h2
      rw [← h2] at this
      exact ⟨_, rfl, this, hX.out⟩
end Go.Proofs.Ytcnbljohhajkhaa
