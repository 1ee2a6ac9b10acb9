/- Layer 18: code of some operations; equal code is the same; where loops begin. -/
import Derived.Test.YtcnbljohhajkhaaWl
import Derived.Test.YtcnbljohhajkhaaWj
import Derived.Test.YtcnbljohhajkhaaWf
namespace Go.Proofs.Ytcnbljohhajkhaa
open Go.RowKit
set_option linter.unusedVariables false
set_option linter.unusedSimpArgs false
attribute [local go_sem ↓] Go.wp_at_zero Go.wp_at_succ

def RdI (w : World) (v : Value) (l : List Int) : Prop := Rd w 1 v l.length (l.map (Value.int .i64))
theorem OwnI.rd {w : World} {B : Nat} {v : Value} {l : List Int} (h : OwnI w B v l) : RdI w v l := Rd.of_own h
theorem OwnC.rd {w : World} {B : Nat} {v : Value} {l : List (Int × Int)} (h : OwnC w B v l) : Code18 w v l := Rd.of_own h
theorem RdI.at {w : World} {b off n cap : Nat} {l : List Int} (h : RdI w (.slice (some ⟨b, off, none⟩) n cap) l) (k : Nat) (hk : k < l.length) : w.cell? ⟨b, off + k, none⟩ = some (.int .i64 (l.getD k 0)) := by
  have hn : l.length = n := by have h2 := h.2; obtain ⟨a, c, e, -⟩ := h2; simp only [Value.slice.injEq] at e; exact e.2.1.symm
  obtain ⟨b', off', e, -, hc⟩ := (show Rd w 1 (.slice (some ⟨b, off, none⟩) n cap) n (l.map (Value.int .i64)) by unfold RdI at h; rw [hn] at h; exact h).cells (by omega)
  simp only [Option.some.injEq, Addr.mk.injEq, and_true] at e
  obtain ⟨rfl, rfl⟩ := e
  have := hc k (by simpa using hk)
  rw [this]
  simp [List.getD, hk]
def cofs (l : List Int) : List (Int × Int) := l.map (fun x => (x, 0))
set_option maxHeartbeats 2000000 in
set_option maxRecDepth 100000 in
theorem code_any (v : Value) (l : List Int) (w : World) (h : RdI w v l) (hl : l.length ≤ 1000) :
    Calls Try.prog 26 #[v] w fun x w' => ∃ v', x = .returned v' ∧ OwnC w' w.heap.size v' (cofs l) ∧ Ext w w' := by
  obtain ⟨n, hn⟩ : ∃ n, l.length = n := ⟨_, rfl⟩
  obtain ⟨a, cap, rfl, hcap, -⟩ := Rd.shape h
  have hR := hidden h
  rw [hn] at hR hl hcap ⊢
  replace hn := hidden hn
  obtain ⟨i0, hi, hz0, hz1, hz2⟩ := info_parts insinfo
  have hia := hidden hi
  clear h hi
  go_enter Try.func26, Try.ntmps26
  go_wp2_with fail
  go_loopw [3, 8] (fun vo ix wr => ∃ (k : Nat), k ≤ n ∧ ix = .int .i64 (k : Int) ∧ Hid (OwnC wr w.heap.size vo (cofs (l.take k))) ∧ Hid (Ext w wr)) (fun _ ix _ => (n - intOf ix).toNat)
  case atStart => exact ⟨0, by omega, rfl, ⟨by simp [cofs], Or.inl ⟨rfl, rfl⟩⟩, Ext.refl w⟩
  case round =>
    obtain ⟨k, hk, rfl, hO, hX⟩ := hrel
    obtain ⟨W, hWW⟩ : ∃ Z, Z = wr := ⟨_, rfl⟩
    subst hWW
    by_cases hlt : k < n
    · have hlt' : (k : Int) < (n : Int) := by omega
      obtain ⟨b, off, rfl, -, -⟩ := (show Rd w 1 (.slice a n cap) n (l.map (Value.int .i64)) by have := hR.out; unfold RdI at this; rw [hn.out] at this; exact this).cells (by omega)
      have hx := hX.out.cell (RdI.at hR.out k (by rw [hn.out]; exact hlt))
      obtain ⟨x, hxe⟩ : ∃ x, l.getD k 0 = x := ⟨_, rfl⟩
      rw [hxe] at hx
      have hlk : l[k]? = some x := by
        have : k < l.length := by rw [hn.out]; exact hlt
        rw [List.getElem?_eq_getElem this]
        simp [List.getD, this] at hxe
        rw [hxe]
      have htk : Hid (cofs (l.take (k + 1)) = cofs (l.take k) ++ [(x, 0)]) := by
        show _ = _
        obtain ⟨hk', rfl⟩ := List.getElem?_eq_some_iff.1 hlk
        unfold cofs
        rw [List.take_succ_eq_append_getElem hk', List.map_append]
        rfl
      have hll : (cofs (l.take k)).length ≤ 1000 := by simp [cofs]; omega
      obtain ⟨lk, hlke⟩ : ∃ lk, cofs (l.take k) = lk := ⟨_, rfl⟩
      rw [hlke] at hO htk hll
      replace hxe := hidden hxe
      replace hlk := hidden hlk
      have HO := hidden (show (W.alloc (.cells #[.int .i64 x, .int .u32 0] 45)).ownsRow w.heap.size 45 2 u3 lk.length (lk.flatMap icell) from own_ext hO.out ((Ext.refl W).alloc _))
      have hws := hX.out.size
      have hkw : IntKind.i64.wrap ((k : Int) + 1) = (k : Int) + 1 := IntWalk.i64_in _ (by omega)
      go_wp2_with (at_builtin; refine wpList_append_rd (by rfl) _ _ 22 (by rfl) w.heap.size 45 i0 (.agg #[.int .i64 0, .int .u32 0]) 2 16 Try.underlying22 hia.out hz0 hz1 hz2 rfl (by decide) u3 lk.length (lk.flatMap icell) (by rfl) HO.out (some ⟨W.heap.size, 0, none⟩) 1 1 [.int .i64 x, .int .u32 0] (by rfl) (rd_new1 W (.int .i64 x) (.int .u32 0) 45) (by simp [Value.oneCell']) (by unfold maxLen; omega) (by omega) (by simp; omega) ?_; intro v' w4 hown4 hgrow4 hat4)
      have hO2 : OwnC w4 w.heap.size v' (lk ++ [(x, 0)]) := by
        unfold OwnC
        rw [List.length_append, List.flatMap_append]
        exact hown4
      have hX4 : Ext w w4 := ((Chg.of_ext [] (hX.out.alloc (.cells #[.int .i64 x, .int .u32 0] 45))).grown hgrow4 (fun k hk => Or.inr (own_lt HO.out hk).1)).ext
      go_roundw
      case rel => exact ⟨k + 1, by omega, by go_num, hidden (by rw [htk.out]; exact hO2), hX4⟩
      case measure => simp [intOf]; omega
    · obtain rfl : k = n := by omega
      go_wp2_with fail
      go_ret
      refine ⟨_, rfl, ?_, hX.out⟩
      have := hO.out
      rw [List.take_of_length_le (by rw [hn.out]; exact Nat.le_refl _)] at this
      exact this
set_option maxHeartbeats 2000000 in
set_option maxRecDepth 100000 in
theorem samecode_any (v v' : Value) (l : List (Int × Int)) (w : World) (h : Code18 w v l) (h' : Code18 w v' l) :
    Calls Try.prog 20 #[v, v'] w fun x w' => x = .returned (.bool true) ∧ Ext w w' := by
  obtain ⟨n, hn⟩ : ∃ n, l.length = n := ⟨_, rfl⟩
  obtain ⟨a, cap, rfl, hcap, hcap2, -⟩ := Rd.shape h
  obtain ⟨a', cap', rfl, hcap', -⟩ := Rd.shape h'
  have hR := hidden h
  have hR' := hidden h'
  rw [hn] at hR hR' hcap hcap' ⊢
  replace hn := hidden hn
  clear h h'
  go_enter Try.func20, Try.ntmps20
  go_wp2_with fail
  go_loopw [5] (fun ix wr => ∃ (k : Nat), k ≤ n ∧ ix = .int .i64 (k : Int) ∧ Hid (Ext w wr)) (fun ix _ => (n - intOf ix).toNat)
  case atStart => exact ⟨0, by omega, rfl, Ext.refl w⟩
  case round =>
    obtain ⟨k, hk, rfl, hX⟩ := hrel
    obtain ⟨W, hWW⟩ : ∃ Z, Z = wr := ⟨_, rfl⟩
    subst hWW
    by_cases hlt : k < n
    · have hlt' : (k : Int) < (n : Int) := by omega
      obtain ⟨b, off, rfl, -, -⟩ := Rd.cells (cs := l.flatMap icell) (w := w) (sz := 2) (by have := hR.out; unfold Code18 at this; rw [hn.out] at this; exact this) (show 0 < n by omega)
      obtain ⟨b', off', rfl, -, -⟩ := Rd.cells (cs := l.flatMap icell) (w := w) (sz := 2) (by have := hR'.out; unfold Code18 at this; rw [hn.out] at this; exact this) (show 0 < n by omega)
      obtain ⟨x0, x1⟩ := code_at2 hR.out k (by rw [hn.out]; exact hlt)
      obtain ⟨y0, y1⟩ := code_at2 hR'.out k (by rw [hn.out]; exact hlt)
      replace x0 := hX.out.cell x0
      replace x1 := hX.out.cell x1
      replace y0 := hX.out.cell y0
      replace y1 := hX.out.cell y1
      generalize l.getD k (0, 0) = c at x0 x1 y0 y1
      obtain ⟨u, z⟩ := c
      simp only at x0 x1 y0 y1
      have hkw : IntKind.i64.wrap ((k : Int) + 1) = (k : Int) + 1 := IntWalk.i64_in _ (by omega)
      go_upto_region 6 with fail
      go_quiet (fail)
      go_wp2_with fail
      go_roundw
      case rel => exact ⟨k + 1, by omega, by go_num, ((Chg.of_ext [] hX.out).drewN _).ext⟩
      case measure => simp [intOf]; omega
    · obtain rfl : k = n := by omega
      go_wp2_with fail
      go_ret
      exact ⟨rfl, hX.out⟩
/-- Where loops begin. -/
def lopF (C : List (Int × Int)) (k : Nat) : List Int := ((List.range k).filter (fun i => opAt C i == 29)).map (fun (i : Nat) => (i : Int))
theorem lopF_succ (C : List (Int × Int)) (k : Nat) : lopF C (k + 1) = if opAt C k = 29 then lopF C k ++ [(k : Int)] else lopF C k := by
  unfold lopF
  rw [List.range_succ, List.filter_append, List.map_append]
  by_cases h : opAt C k = 29 <;> simp [h]
theorem lopF_len (C : List (Int × Int)) (k : Nat) : (lopF C k).length ≤ k := by
  unfold lopF
  rw [List.length_map]
  have := List.length_filter_le (fun i => opAt C i == 29) (List.range k)
  simpa using this
def loopR (C : List (Int × Int)) : List Int × Int := if (parR C).2.2 = 0 then (lopF C C.length, 0) else ([], (parR C).2.2)
def LoopP (w : World) (C : List (Int × Int)) (x : Ending) (w' : World) : Prop := ∃ v, x = .returned (.tuple #[v, .int .i64 (loopR C).2]) ∧ OwnI w' w.heap.size v (loopR C).1 ∧ Ext w w'
theorem parR_len (C : List (Int × Int)) (h : (parR C).2.2 = 0) : C.length ≤ 1024 := by
  unfold parR at h
  split at h
  · assumption
  · simp at h
theorem OwnI.nil' (w : World) (B : Nat) : OwnI w B (.slice none 0 0) [] := ⟨by simp, Or.inl ⟨rfl, rfl⟩⟩
set_option maxHeartbeats 2000000 in
set_option maxRecDepth 100000 in
theorem loops_any (hL : ∀ C f, ListOK C f) (v : Value) (C : List (Int × Int)) (w : World) (h : Code18 w v C) :
    Calls Try.prog 16 #[v] w (LoopP w C) := by
  have hpar := parse_any hL v C w h
  obtain ⟨n, hn⟩ : ∃ n, C.length = n := ⟨_, rfl⟩
  obtain ⟨a, cap, rfl, hcap, hcap2, -⟩ := Rd.shape h
  have hR := hidden h
  rw [hn] at hR hcap hpar ⊢
  replace hn := hidden hn
  replace hpar := hidden hpar
  obtain ⟨e, he⟩ : ∃ e, (parR C).2.2 = e := ⟨_, rfl⟩
  have hLR : Hid (loopR C = if e = 0 then (lopF C C.length, 0) else ([], e)) := by show _ = _; unfold loopR; rw [he]
  have hbd : e = 0 → n ≤ 1024 := fun h0 => by rw [← hn.out]; exact parR_len C (by rw [he, h0])
  replace he := hidden he
  obtain ⟨i1, hi, hz0, hz1, hz2⟩ := info_parts intinfo
  have hia := hidden hi
  clear h hi
  go_enter Try.func16, Try.ntmps16
  go_wp2_with fail
  refine hpar.out.mono ?_
  clear hpar
  rintro x w1 hP
  unfold ParP at hP
  rw [he.out] at hP
  obtain ⟨vt, rfl, -, hX1⟩ := hP
  replace hX1 := hidden hX1
  by_cases h0 : e = 0
  · subst h0
    have hn1 := hbd rfl
    go_wp2_with fail
    go_loopw [7, 21] (fun vo ix wr => ∃ (k : Nat), k ≤ n ∧ ix = .int .i64 (k : Int) ∧ Hid (OwnI wr w.heap.size vo (lopF C k)) ∧ Hid (Ext w wr)) (fun _ ix _ => (n - intOf ix).toNat)
    case atStart => exact ⟨0, by omega, rfl, hidden (by simpa [lopF] using OwnI.nil' w1 w.heap.size), hX1⟩
    case round =>
      obtain ⟨k, hk, rfl, hO, hX⟩ := hrel
      obtain ⟨W, hWW⟩ : ∃ Z, Z = wr := ⟨_, rfl⟩
      subst hWW
      by_cases hlt : k < n
      · have hlt' : (k : Int) < (n : Int) := by omega
        obtain ⟨b, off, rfl, -, -⟩ := Rd.cells (cs := C.flatMap icell) (w := w) (sz := 2) (by have := hR.out; unfold Code18 at this; rw [hn.out] at this; exact this) (show 0 < n by omega)
        obtain ⟨x0, x1⟩ := code_at2 hR.out k (by rw [hn.out]; exact hlt)
        replace x0 := hX.out.cell x0
        replace x1 := hX.out.cell x1
        have hlo := lopF_succ C k
        have hol : opAt C k = (C.getD k (0, 0)).1 := rfl
        rw [hol] at hlo
        generalize C.getD k (0, 0) = c at x0 x1 hlo
        obtain ⟨u, z⟩ := c
        simp only at x0 x1 hlo
        have hll := lopF_len C k
        obtain ⟨lk, hlke⟩ : ∃ lk, lopF C k = lk := ⟨_, rfl⟩
        rw [hlke] at hO hlo hll
        replace hlke := hidden hlke
        have hkw : IntKind.i64.wrap ((k : Int) + 1) = (k : Int) + 1 := IntWalk.i64_in _ (by omega)
        have X1 := (Ext.refl W).alloc (.cells #[.int .i64 u, .int .u32 z] 45)
        have N1 := Blk.new W [.int .i64 u, .int .u32 z] 45
        have c0 := N1.cell 0 _ rfl
        have hws := hX.out.size
        clear N1
        by_cases hu : u = 29
        · subst hu
          rw [if_pos rfl] at hlo
          replace hlo := hidden hlo
          have HO := hidden (show ((W.alloc (.cells #[.int .i64 29, .int .u32 z] 45)).alloc (.cells #[.int .i64 (k : Int)] 3)).ownsRow w.heap.size 3 1 u7 lk.length (lk.map (Value.int .i64)) from own_ext hO.out (X1.alloc _))
          have hnw : Rd ((W.alloc (.cells #[.int .i64 29, .int .u32 z] 45)).alloc (.cells #[.int .i64 (k : Int)] 3)) 1 (.slice (some ⟨(W.alloc (.cells #[.int .i64 29, .int .u32 z] 45)).heap.size, 0, none⟩) 1 1) 1 [.int .i64 (k : Int)] := by
            have hb := Blk.new (W.alloc (.cells #[.int .i64 29, .int .u32 z] 45)) [.int .i64 (k : Int)] 3
            refine ⟨rfl, _, _, rfl, Nat.le_refl _, by decide, by simp, fun _ => ⟨_, _, rfl, by simp, fun j hj => ?_⟩⟩
            match j, hj with
            | 0, _ => exact hb.cell 0 _ rfl
          rw [show (W.alloc (.cells #[.int .i64 29, .int .u32 z] 45)).heap.size = W.heap.size + 1 by simp] at hnw
          replace hnw := hidden hnw
          go_wp2_with (at_builtin; refine wpList_append_rd (by rfl) _ _ 32 (by rfl) w.heap.size 3 i1 (.int .i64 0) 1 8 Try.underlying32 hia.out hz0 hz1 hz2 rfl (by decide) u7 lk.length (lk.map (Value.int .i64)) (by rfl) HO.out (some ⟨W.heap.size + 1, 0, none⟩) 1 1 [.int .i64 (k : Int)] (by rfl) hnw.out (by simp [Value.oneCell']) (by unfold maxLen; omega) (by omega) (by simp; omega) ?_; intro v' w4 hown4 hgrow4 hat4)
          have hO2 : OwnI w4 w.heap.size v' (lk ++ [(k : Int)]) := by
            unfold OwnI
            rw [List.length_append, List.map_append]
            exact hown4
          have hX4 : Ext w w4 := ((Chg.of_ext [] ((hX.out.alloc _).alloc _)).grown hgrow4 (fun k hk => Or.inr (own_lt HO.out hk).1)).ext
          go_roundw
          case rel => exact ⟨k + 1, by omega, by go_num, hidden (by rw [hlo.out]; exact hO2), hX4⟩
          case measure => simp [intOf]; omega
        · have hu' : (u == 29) = false := by simp; exact hu
          rw [if_neg hu] at hlo
          replace hlo := hidden hlo
          go_wp2_with fail
          go_roundw
          case rel => exact ⟨k + 1, by omega, by go_num, hidden (by rw [hlo.out]; exact own_ext hO.out X1), hX.out.alloc _⟩
          case measure => simp [intOf]; omega
      · obtain rfl : k = n := by omega
        go_wp2_with fail
        go_ret2
        unfold LoopP
        rw [hLR.out]
        simp only [if_true]
        exact ⟨_, rfl, by rw [hn.out]; exact hO.out, hX.out⟩
  · have h0' : (e != 0) = true := by simp; exact h0
    go_wp2_with fail
    go_ret2
    unfold LoopP
    rw [hLR.out, if_neg h0]
    exact ⟨_, rfl, OwnI.nil' _ _, hX1.out⟩
end Go.Proofs.Ytcnbljohhajkhaa
