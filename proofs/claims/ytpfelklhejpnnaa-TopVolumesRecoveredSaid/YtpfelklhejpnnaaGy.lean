/- galois.reduced. -/
import Derived.Test.YtpfelklhejpnnaaGt
import Derived.Test.YtpfelklhejpnnaaHbd
import Derived.Deep.RegionLaw
import Derived.Deep.DeepCutAuto
import Derived.BigRegion
import Derived.Test.YtpfelklhejpnnaaGs
namespace Go.Proofs.Ytpfelklhejpnnaa
open Go.RowKit
set_option linter.unusedVariables false
set_option linter.unusedSimpArgs false
attribute [local go_sem ↓] Go.wp_at_zero Go.wp_at_succ

theorem own_base {w : World} {B B' : Nat} {e : TypeId} {sz n : Nat} {v : Value} {xs : List Value} (h : w.ownsRow B e sz v n xs) (hB : B' ≤ B) : w.ownsRow B' e sz v n xs := by
  obtain ⟨h0, h1⟩ := h
  refine ⟨h0, ?_⟩
  rcases h1 with h1 | ⟨g, cap, cur, e1, e2, e3⟩
  · exact Or.inl h1
  · exact Or.inr ⟨g, cap, cur, e1, by omega, e3⟩
/-- The rows from one on. -/
theorem RL.drop {w : World} {ad : Option Addr} {n cap : Nat} {L : List (List Int)} (h : RL w (.slice ad n cap) L) (k : Nat) (hk : k ≤ n) :
    ∃ a' cap', (∀ w, (Instr.sliceAt 26 (.slice ad n cap) (some (.int .i64 (k : Int))) none none).run Try.prog w = .ok (.slice a' (n - k) cap') w) ∧ RL w (.slice a' (n - k) cap') (L.drop k) := by
  have hL := h.len
  obtain ⟨vs, h1, h2⟩ := h
  rw [hL] at h1
  obtain ⟨a', cap', r1, r2, -⟩ := cut_l (P := Try.prog) (t := 26) Try.underlying26 Try.sizeOf22 h1 k (k : Int) rfl hk
  refine ⟨a', cap', r1, vs.drop k, by rw [List.length_drop, hL]; simpa using r2, by have := h2.1; simp at this ⊢; omega, fun i u C hu hC => ?_⟩
  rw [List.getElem?_drop] at hu
  rw [List.getElem?_map, List.getElem?_drop, ← List.getElem?_map] at hC
  exact h2.2 (k + i) u C hu hC
theorem GM.cell_set {w : World} {B ob n cap : Nat} {W : Nat} {g cp : Nat → Nat} {L : List (List Int)} (h : GM w B (.slice (some ⟨ob, 0, none⟩) n cap) n W g cp L) {i : Nat} (hi : i < n) (j : Nat) (u : Value) : ∃ q, (w.setCell ⟨ob, j, none⟩ u).cell? ⟨ob, i, none⟩ = some q := by
  have h1 := (World.ownsRow.stored h.own j u).1
  have hl : i < (((List.range n).map (RV g cp W)).set j u).length := by simp [hi]
  have := h1.cells (g := ob) rfl i _ (List.getElem?_eq_getElem hl)
  rw [show (⟨ob, 0, none⟩ : Addr).add i = ⟨ob, i, none⟩ from by unfold Addr.add; split <;> simp_all] at this
  exact ⟨_, this⟩
def upd (g : Nat → Nat) (k x : Nat) (i : Nat) : Nat := if i = k then x else g i
/-- One more row. -/
theorem GM.snoc {w w' : World} {B k W x c : Nat} {v v' : Value} {g cp : Nat → Nat} {L : List (List Int)} {l : List Int} (h : GM w B v k W g cp L)
    (hO : w'.ownsRow B 22 1 v' (k + 1) ((List.range k).map (RV g cp W) ++ [.slice (some ⟨x, 0, none⟩) W c])) (hC : Chg v.ownBlock.toList w w')
    (hl : Own8 w B (.slice (some ⟨x, 0, none⟩) W c) l) (hW : l.length = W) (hb : Bytes l) (hx : ∀ i, i < k → g i ≠ x) : GM w' B v' (k + 1) W (upd g k x) (upd cp k c) (L ++ [l]) := by
  have hr : ∀ i, i < k → RV (upd g k x) (upd cp k c) W i = RV g cp W i := fun i hi => by unfold RV upd; rw [if_neg (by omega), if_neg (by omega)]
  have hk : RV (upd g k x) (upd cp k c) W k = .slice (some ⟨x, 0, none⟩) W c := by unfold RV upd; rw [if_pos rfl, if_pos rfl]
  have hL : ∀ i, i < k → (L ++ [l]).getD i [] = L.getD i [] := fun i hi => by rw [List.getD_eq_getElem?_getD, List.getElem?_append_left (by rw [h.len]; exact hi), ← List.getD_eq_getElem?_getD]
  have hLk : (L ++ [l]).getD k [] = l := by rw [List.getD_eq_getElem?_getD, ← h.len, List.getElem?_concat_length]; rfl
  refine ⟨?_, fun i hi => ?_, by simp [h.len], fun i hi => ?_, fun i hi => ?_, fun i j hi hj e => ?_⟩
  · rw [List.range_succ, List.map_append, List.map_congr_left (fun i hi => hr i (List.mem_range.1 hi)), List.map_singleton, hk]
    exact hO
  · by_cases e : i = k
    · rw [e, hLk, hk]
      exact own_chg hl hC (fun y hy => by
        simp at hy
        exact own_ne_own h.own hl (by decide) hy)
    · rw [hr i (by omega), hL i (by omega)]
      exact own_chg (h.rows i (by omega)) hC (fun y hy => by
        simp at hy
        exact own_ne_own h.own (h.rows i (by omega)) (by decide) hy)
  · by_cases e : i = k
    · rw [e, hLk]; exact hW
    · rw [hL i (by omega)]; exact h.wid i (by omega)
  · by_cases e : i = k
    · rw [e, hLk]; exact hb
    · rw [hL i (by omega)]; exact h.byt i (by omega)
  · unfold upd at e
    by_cases e1 : i = k
    · by_cases e2 : j = k
      · omega
      · rw [if_pos e1, if_neg e2] at e
        exact absurd e.symm (hx j (by omega))
    · by_cases e2 : j = k
      · rw [if_neg e1, if_pos e2] at e
        exact absurd e (hx i (by omega))
      · rw [if_neg e1, if_neg e2] at e
        exact h.inj i j (by omega) (by omega) e

set_option maxRecDepth 100000 in
set_option maxHeartbeats 2000000 in
theorem reduced_any (n W m : Nat) (h1 : 1 ≤ n) (h2 : n ≤ 64) (hW0 : 0 < W) (hW1 : W ≤ 1000) (hm : m ≤ n) (hmW : m ≤ W) (v : Value) (M : List (List Int)) (hl : M.length = n) (hw : Wide M W) (hb : ∀ l ∈ M, Bytes l) (hok : RedOK M m) (w : World) (hr : RL w v M) :
    Calls Try.prog 77 #[v, .int .i64 (m : Int)] w fun e w' => ∃ v' g cp, e = .returned (.tuple #[v', .int .i64 (m : Int)]) ∧ GM w' w.heap.size v' n W g cp (redK M m) ∧ Ext w w' := by
  obtain ⟨ad, cap, rfl, q1, q2⟩ := hr.shape
  rw [hl] at hr q1 ⊢
  have hf := field_any w
  have hcl := fun v l (hl : l.length ≤ 900000) w h => clone_any v l hl w h
  replace hf := hidden hf
  replace hcl := hidden hcl
  replace hr := hidden hr
  replace hok := hidden hok
  replace hb := hidden hb
  replace hw := hidden hw
  obtain ⟨i0, hi, hz0, hz1, hz2⟩ := info_parts s8info
  replace hi := hidden hi
  go_enter Try.func77, Try.ntmps77
  go_wp2_with fail
  refine hf.out.mono ?_
  rintro e w1 ⟨gt, rfl, hT, -, hX1⟩
  go_upto_region 4 with fail
  obtain ⟨p, hp⟩ : ∃ p, w1.heap.size = p := ⟨_, rfl⟩
  have hBp : Hid (Blk (w1.alloc (.cells #[.pointer (some ⟨gt, 0, none⟩)] 98)) p 98 [.pointer (some ⟨gt, 0, none⟩)]) := hidden (hp ▸ Blk.new w1 [.pointer (some ⟨gt, 0, none⟩)] 98)
  have hX2 : Hid (Ext w1 (w1.alloc (.cells #[.pointer (some ⟨gt, 0, none⟩)] 98))) := hidden ((Ext.refl w1).alloc _)
  have hT2 := hT.ext hX2.out
  obtain ⟨w2, hw2⟩ : ∃ W, (w1.alloc (.cells #[.pointer (some ⟨gt, 0, none⟩)] 98)) = W := ⟨_, rfl⟩
  rw [hw2] at hBp hX2 hT2 ⊢
  rw [hp]
  have hXw : Hid (Ext w w2) := hidden (hX1.trans hX2.out)
  replace hT2 := hidden hT2
  clear hw2 hp hT hX1 hX2
  go_loopw [7, 20] (fun u i wr => ∃ (k : Nat) (g cp : Nat → Nat), i = .int .i64 (k : Int) ∧ k ≤ n ∧ Hid (GM wr w2.heap.size u k W g cp (M.take k)) ∧ Hid (Ext w2 wr)) (fun _ i _ => n - (intOf i).toNat)
  case atStart => exact ⟨0, _, _, rfl, by omega, hidden (GM.nil _ _ _), hidden (Ext.refl w2)⟩
  case round =>
    obtain ⟨k, g, cp, rfl, hk, hG, hX⟩ := hrel
    have v1 : IntKind.i64.wrap ((k : Int) + 1) = (k : Int) + 1 := IntWalk.i64_in _ (by omega)
    obtain ⟨w3, hWW⟩ : ∃ X, X = wr := ⟨_, rfl⟩
    subst hWW
    by_cases hlt : k < n
    · have hlt2 : (k : Int) < (n : Int) := by omega
      obtain ⟨b, off, a, c, rfl, cB, hrd⟩ := (hr.out.ext (hXw.out.trans hX.out)).row k hlt
      have hrw := hw.out.at (show k < M.length by omega)
      have hby : Bytes (M.getD k []) := hb.out _ (by rw [List.getD_eq_getElem?_getD, List.getElem?_eq_getElem (show k < M.length by omega)]; exact List.getElem_mem _)
      have htk : M.take (k + 1) = M.take k ++ [M.getD k []] := by rw [List.take_add_one, List.getD_eq_getElem?_getD, List.getElem?_eq_getElem (show k < M.length by omega)]; rfl
      obtain ⟨l, hle⟩ : ∃ l, M.getD k [] = l := ⟨_, rfl⟩
      rw [hle] at cB hrd hrw hby htk
      rw [hrw] at cB
      rw [hrw] at hrd
      have hc1 := hcl.out _ l (by omega) w3 hrd
      replace hc1 := hidden hc1
      replace hby := hidden hby
      replace htk := hidden htk
      clear hrd hle
      go_wp2_with fail
      refine hc1.out.mono ?_
      rintro e w4 ⟨v4, rfl, hO4, hX4⟩
      obtain ⟨x, cx, hv4, hx1, hx2, hx3⟩ : ∃ x cx, v4 = .slice (some ⟨x, 0, none⟩) W cx ∧ w3.heap.size ≤ x ∧ x < w4.heap.size ∧ W ≤ cx := by
        rcases hO4.shape with ⟨h1, h2⟩ | ⟨x, cx, h1, h2, h3, h4, h5⟩
        · rw [h2] at hrw; simp at hrw; omega
        · exact ⟨x, cx, by rw [h1, hrw], h2, h3, by omega⟩
      subst hv4
      have hG4 := hG.out.ext hX4
      have hL4 := hG.out.len
      obtain ⟨L, hLe⟩ : ∃ L, M.take k = L := ⟨_, rfl⟩
      rw [hLe] at hG hG4 hL4
      rw [hLe] at htk
      have hgx : ∀ i, i < k → g i ≠ x := fun i hi => by have := (hG.out.ge hi).2; omega
      have hlo : Own8 w4 w2.heap.size (.slice (some ⟨x, 0, none⟩) W cx) l := own_base hO4 (hX.out.size)
      obtain ⟨av, cv, rfl, s1, s2, -⟩ := own_shape hG4.own
      have hOA : Hid ((w4.alloc (.cells #[.slice (some ⟨x, 0, none⟩) W cx] 22)).ownsRow w2.heap.size 22 1 (.slice av k cv) k ((List.range k).map (RV g cp W))) := hidden (own_ext hG4.own ((Ext.refl w4).alloc _))
      have hrdA : Hid (Rd (w4.alloc (.cells #[.slice (some ⟨x, 0, none⟩) W cx] 22)) 1 (.slice (some ⟨w4.heap.size, 0, none⟩) 1 1) 1 [.slice (some ⟨x, 0, none⟩) W cx]) := hidden (rd_of_blkS (Blk.new w4 [.slice (some ⟨x, 0, none⟩) W cx] 22) rfl (by omega))
      have hbz : w2.heap.size ≤ (w4.alloc (.cells #[.slice (some ⟨x, 0, none⟩) W cx] 22)).heap.size := ((hX.out.trans hX4).alloc _).size
      have hXA : Hid (Ext w2 (w4.alloc (.cells #[.slice (some ⟨x, 0, none⟩) W cx] 22))) := hidden ((hX.out.trans hX4).alloc _)
      replace hX4 := hidden hX4
      replace hG4 := hidden hG4
      replace hlo := hidden hlo
      replace hgx := hidden hgx
      clear hO4
      go_wp2_with (at_builtin; refine wpList_append_rd (by rfl) _ _ 26 (by rfl) w2.heap.size 22 i0 (.slice none 0 0) 1 24 Try.underlying26 hi.out hz0 hz1 hz2 rfl (by decide) (.slice av k cv) k ((List.range k).map (RV g cp W)) (by rfl) hOA.out (some ⟨w4.heap.size, 0, none⟩) 1 1 [.slice (some ⟨x, 0, none⟩) W cx] (by rfl) hrdA.out (by simp [Value.oneCell']) (by unfold maxLen; omega) (by omega) hbz ?_; intro v6 w6 hown hgrow hb3)
      have hX6 : Ext w2 w6 := Chg.ext ((Chg.of_ext [] hXA.out).grown hgrow (fun y hy => Or.inr (own_lt hOA.out hy).1))
      have hC6 : Chg (Value.slice av k cv).ownBlock.toList w4 w6 := ((Chg.refl (Value.slice av k cv).ownBlock.toList w4).alloc _).grown hgrow (fun y hy => Or.inl (by rw [hy]; simp))
      exact ⟨⟨k + 1, upd g k x, upd cp k cx, by go_num, by omega, hidden (by rw [htk.out]; exact hG4.out.snoc hown hC6 hlo.out hrw hby.out hgx.out), hidden hX6⟩, by simp [intOf]; omega⟩
    · have hke : k = n := by omega
      have hG2 := hG.out
      rw [hke, List.take_of_length_le (by omega)] at hG2
      have hk8 : decide ((k : Int) < (n : Int)) = false := decide_eq_false (by omega)
      obtain ⟨av, cv, hu, s1, s2, -⟩ := own_shape hG2.own
      subst hu
      obtain ⟨ob, rfl⟩ : ∃ ob, av = some ⟨ob, 0, none⟩ := by
        obtain ⟨ob, cap, e, -⟩ := own_some hG2.own (by omega)
        simp only [Value.slice.injEq] at e
        exact ⟨ob, e.1⟩
      have hXw3 : Hid (Ext w w3) := hidden (hXw.out.trans hX.out)
      have hT3 : Hid (Tab w3 gt) := hidden (hT2.out.ext hX.out)
      have hB3 : Hid (Blk w3 p 98 [.pointer (some ⟨gt, 0, none⟩)]) := hidden (hBp.out.ext hX.out)
      replace hG2 := hidden hG2
      have hBs : w.heap.size ≤ w2.heap.size := hXw.out.size
      clear hG hX hT2 hBp hXw v1 hi hz0 hz1 hz2
      have hke2 := hke.symm
      clear hke
      subst hke2
      go_upto_region 11 with fail
      have hBc0 : Hid (Blk (w3.alloc (.cells #[.int .i64 0] 3)) w3.heap.size 3 [.int .i64 ((0 : Nat) : Int)]) := hidden (Blk.new w3 [.int .i64 0] 3)
      have hXa : Ext w3 (w3.alloc (.cells #[.int .i64 0] 3)) := (Ext.refl w3).alloc _
      have hG3 : Hid (GM (w3.alloc (.cells #[.int .i64 0] 3)) w2.heap.size (.slice (some ⟨ob, 0, none⟩) n cv) n W g cp (redK M 0)) := hidden (hG2.out.ext hXa)
      have hT4 : Hid (Tab (w3.alloc (.cells #[.int .i64 0] 3)) gt) := hidden (hT3.out.ext hXa)
      have hB4 : Hid (Blk (w3.alloc (.cells #[.int .i64 0] 3)) p 98 [.pointer (some ⟨gt, 0, none⟩)]) := hidden (hB3.out.ext hXa)
      have hX4 : Hid (Ext w (w3.alloc (.cells #[.int .i64 0] 3))) := hidden (hXw3.out.trans hXa)
      have hcb0 : w.heap.size ≤ w3.heap.size := hXw3.out.size
      obtain ⟨B, hBe⟩ : ∃ B, w2.heap.size = B := ⟨_, rfl⟩
      obtain ⟨cb0, hcbe⟩ : ∃ q, w3.heap.size = q := ⟨_, rfl⟩
      obtain ⟨w4, hw4⟩ : ∃ W, w3.alloc (.cells #[.int .i64 0] 3) = W := ⟨_, rfl⟩
      rw [hw4] at hBc0 hG3 hT4 hB4 hX4 ⊢
      rw [hBe] at hG3 hBs
      rw [hcbe] at hBc0 hcb0 ⊢
      clear hXa hw4 hG2 hT3 hB3 hXw3 hcbe hBe
      go_loopw [10, 12] (fun u10 u12 wr => ∃ (c cb : Nat) (g cp : Nat → Nat), u10 = .int .i64 (c : Int) ∧ u12 = .pointer (some ⟨cb, 0, none⟩) ∧ c ≤ m ∧ w.heap.size ≤ cb ∧ Hid (GM wr B (.slice (some ⟨ob, 0, none⟩) n cv) n W g cp (redK M c)) ∧ Hid (Tab wr gt) ∧ Hid (Blk wr p 98 [.pointer (some ⟨gt, 0, none⟩)]) ∧ Hid (Blk wr cb 3 [.int .i64 (c : Int)]) ∧ Hid (Ext w wr)) (fun u10 _ _ => m - (intOf u10).toNat)
      case atStart => exact ⟨0, cb0, g, cp, rfl, rfl, by omega, hcb0, hG3, hT4, hB4, hBc0, hX4⟩
      case round =>
        clear hG3 hT4 hB4 hBc0 hX4 hcb0
        obtain ⟨c, cb, g, cp, rfl, rfl, hc, hcb, hG, hT, hBp, hBc, hX⟩ := hrel
        have v1 : IntKind.i64.wrap ((c : Int) + 1) = (c : Int) + 1 := IntWalk.i64_in _ (by omega)
        obtain ⟨w5, hWW⟩ : ∃ X, X = wr := ⟨_, rfl⟩
        subst hWW
        have cc := hBc.out.cell 0 _ rfl
        by_cases hltc : c < m
        · have hlt3 : (c : Int) < (m : Int) := by omega
          have hlt4 : (c : Int) < (n : Int) := by omega
          have hix := hok.out c hltc
          have hz := ixF_lt _ _ hix
          obtain ⟨K, hK⟩ : ∃ K, redK M c = K := ⟨_, rfl⟩
          have hKs : redK M (c + 1) = redS c (ixF (nzF c) (K.drop c)).toNat K := by rw [← hK]; rfl
          rw [hK] at hG hix hz
          have hKl := hG.out.len
          rw [List.length_drop, hKl] at hz
          obtain ⟨z, hze⟩ : ∃ z : Nat, ixF (nzF c) (K.drop c) = (z : Int) := ⟨_, (Int.toNat_of_nonneg hix).symm⟩
          obtain ⟨a', c', hrun, hRd⟩ := hG.out.rl.drop c (by omega)
          have hid := index1_any 83 cb (nzF c) (.slice a' (n - c) c') (K.drop c) (by rw [List.length_drop]; omega) w5 hRd (fun args w => by rfl) (fun k hk u W' hX' hu => by
            rw [List.length_drop, hKl] at hk
            have hkw := hG.out.wid (c + k) (by omega)
            have he : (K.drop c).getD k [] = K.getD (c + k) [] := by simp [List.getD, List.getElem?_drop]
            rw [he] at hu ⊢
            exact red2_any cb c u (K.getD (c + k) []) (by omega) (by omega) W' hu (hX'.cell cc))
          rw [hze] at hid hix hz hKs
          rw [Int.toNat_natCast] at hz hKs
          have v2 : ¬ (z : Int) < 0 := by omega
          replace hid := hidden hid
          replace hKs := hidden hKs
          clear hRd hK hze hix
          go_upto_region 15 with fail
          refine hid.out.mono ?_
          rintro e w6 ⟨rfl, hX6⟩
          go_upto_region 15 with fail
          have hG6 := hG.out.ext hX6
          have hT6 : Hid (Tab w6 gt) := hidden (hT.out.ext hX6)
          have hBp6 : Hid (Blk w6 p 98 [.pointer (some ⟨gt, 0, none⟩)]) := hidden (hBp.out.ext hX6)
          have hBc6 : Hid (Blk w6 cb 3 [.int .i64 (c : Int)]) := hidden (hBc.out.ext hX6)
          have hXw6 : Hid (Ext w w6) := hidden (hX.out.trans hX6)
          obtain ⟨s, hs⟩ : ∃ s, c + z = s := ⟨_, rfl⟩
          have v3 : IntKind.i64.wrap ((c : Int) + (z : Int)) = (s : Int) := by rw [IntWalk.i64_in _ (by omega)]; omega
          have hsn : s < n := by omega
          have hsn2 : (s : Int) < (n : Int) := by omega
          have hcn : c < n := by omega
          have ca := hG6.cell hcn
          have cs := hG6.cell hsn
          have fa := World.ownsRow.frozenAt hG6.own c
          have fs := World.ownsRow.frozenAt hG6.own s
          obtain ⟨x1, hx1⟩ : ∃ q, g c = q := ⟨_, rfl⟩
          obtain ⟨x2, hx2⟩ : ∃ q, g s = q := ⟨_, rfl⟩
          obtain ⟨x3, hx3⟩ : ∃ q, cp c = q := ⟨_, rfl⟩
          obtain ⟨x4, hx4⟩ : ∃ q, cp s = q := ⟨_, rfl⟩
          have hsw : Hid (∀ X, Ext w6 X → GM ((X.setCell ⟨ob, c, none⟩ (.slice (some ⟨x2, 0, none⟩) W x4)).setCell ⟨ob, s, none⟩ (.slice (some ⟨x1, 0, none⟩) W x3)) B (.slice (some ⟨ob, 0, none⟩) n cv) n W (fun i => g (swI c s i)) (fun i => cp (swI c s i)) (swL K c s) ∧ Chg [ob] w6 ((X.setCell ⟨ob, c, none⟩ (.slice (some ⟨x2, 0, none⟩) W x4)).setCell ⟨ob, s, none⟩ (.slice (some ⟨x1, 0, none⟩) W x3))) := hidden (fun X hXX => by
            refine ⟨?_, ((Chg.of_ext [ob] hXX).setCell (Or.inl (by simp)) _).setCell (Or.inl (by simp)) _⟩
            have := (hG6.ext hXX).swap hcn hsn
            rw [hx1, hx2, hx3, hx4] at this
            exact this)
          rw [hx1, hx3] at ca
          rw [hx2, hx4] at cs
          obtain ⟨q1, hq1⟩ := hG6.cell_set hsn c (.slice (some ⟨x2, 0, none⟩) W x4)
          obtain ⟨q2, hq2⟩ := hG6.cell_set hcn s (.slice (some ⟨x1, 0, none⟩) W x3)
          have hob : w.heap.size ≤ ob := by have := (own_lt hG6.own (x := ob) rfl).1; omega
          have hGc0 := hidden hG6.own
          clear hG hT hBp hBc hX hX6 hid
          clear hG6
          go_cut [] (fun wx => Hid (GM wx B (.slice (some ⟨ob, 0, none⟩) n cv) n W (fun i => g (swI c s i)) (fun i => cp (swI c s i)) (swL K c s)) ∧ Hid (Chg [ob] w6 wx))
          case first =>
            go_region
            go_wp2_with fail
            go_meet
            exact ⟨hidden ((hsw.out w6 (Ext.refl _)).1.ext (Ext.refl _).drew), hidden ((hsw.out w6 (Ext.refl _)).2.trans (Chg.of_ext [ob] (Ext.refl _).drew) (fun x hx => Or.inl hx))⟩
          case rest =>
            obtain ⟨hGc, hCc⟩ := hcut
            have hTc : Tab wc gt := Blk.chg hT6.out hCc.out (by simp; intro e; exact own_ne_blk hGc0.out hT6.out (by decide) (by rw [e]; rfl))
            have hBpc : Blk wc p 98 [.pointer (some ⟨gt, 0, none⟩)] := hBp6.out.chg hCc.out (by simp; intro e; exact own_ne_blk hGc0.out hBp6.out (by decide) (by rw [e]; rfl))
            have hBcc : Blk wc cb 3 [.int .i64 (c : Int)] := hBc6.out.chg hCc.out (by simp; intro e; exact own_ne_blk hGc0.out hBc6.out (by decide) (by rw [e]; rfl))
            have hXwc : Ext w wc := Chg.ext ((Chg.of_ext [] hXw6.out).trans hCc.out (fun x hx => Or.inr (by simp at hx; omega)))
            obtain ⟨g2, hg2⟩ : ∃ q, (fun i => g (swI c s i)) = q := ⟨_, rfl⟩
            obtain ⟨cp2, hcp2⟩ : ∃ q, (fun i => cp (swI c s i)) = q := ⟨_, rfl⟩
            obtain ⟨L1, hL1⟩ : ∃ q, swL K c s = q := ⟨_, rfl⟩
            rw [hg2, hcp2, hL1] at hGc
            clear hT6 hBp6 hBc6 hXw6 hCc hGc0 hsw hg2 hcp2 ca cs fa fs hq1 hq2 hx1 hx2 hx3 hx4
            have cc2 := hBcc.cell 0 _ rfl
            have cp0 := hBpc.cell 0 _ rfl
            have cpv := hGc.out.cell hcn
            have hrow := hGc.out.rows c hcn
            have hrl := hGc.out.wid c hcn
            have hrb := hGc.out.byt c hcn
            unfold RV at hrow
            obtain ⟨y1, hy1⟩ : ∃ q, g2 c = q := ⟨_, rfl⟩
            obtain ⟨y2, hy2⟩ : ∃ q, cp2 c = q := ⟨_, rfl⟩
            obtain ⟨T, hTe⟩ : ∃ q, L1.getD c [] = q := ⟨_, rfl⟩
            rw [hy1, hy2] at cpv hrow
            rw [hTe] at hrow hrl hrb
            have cel := hrow.rd.at c (by omega)
            obtain ⟨a, ha, hal⟩ : ∃ x : Nat, T.getD c 0 = (x : Int) ∧ x < 256 := ⟨(T.getD c 0).toNat, by have := hrb.get c (by omega); omega, by have := hrb.get c (by omega); omega⟩
            rw [ha, Nat.zero_add] at cel
            have hcW : (c : Int) < (W : Int) := by omega
            have hclo : Hid (∀ X, Ext wc X → Calls Try.prog 46 #[.slice (some ⟨y1, 0, none⟩) W y2] X fun e w' => ∃ v', e = .returned v' ∧ Hid (∀ Y, Ext w' Y → Rd8 Y v' T) ∧ v'.ownBlock ≠ some y1 ∧ Ext wc w' ∧ w'.cell? ⟨p, 0, none⟩ = some (.pointer (some ⟨gt, 0, none⟩)) ∧ w'.cell? ⟨cb, 0, none⟩ = some (.int .i64 (c : Int)) ∧ w'.cell? ⟨y1, c, none⟩ = some (.int .u8 (a : Int))) := hidden (fun X hX => (hcl.out _ T (by omega) X (hrow.rd.ext hX)).mono (by
              rintro e w' ⟨v', h1, h2, h3⟩
              refine ⟨v', h1, hidden (fun Y hY => h2.rd.ext hY), fun e => ?_, hX.trans h3, (hX.trans h3).cell cp0, (hX.trans h3).cell cc2, (hX.trans h3).cell cel⟩
              have q1 := (own_lt h2 e).1
              have q2 := (own_lt hrow (x := y1) rfl).2
              have := hX.size
              omega))
            have hiv : Hid (∀ X, Ext wc X → Calls Try.prog 57 #[.pointer (some ⟨gt, 0, none⟩), .int .u8 (a : Int)] X fun e w' => e = .returned (.int .u8 (Gf.inv a : Int)) ∧ ∃ k, w' = X.drewN k) := hidden (fun X hX => tinv_any gt a hal X (hTc.ext hX))
            have hil := Gf.inv_lt a
            obtain ⟨f0, hf0⟩ : ∃ q, Gf.inv a = q := ⟨_, rfl⟩
            rw [hf0] at hiv hil
            have v4 : bits .xor .u8 (f0 : Int) (1 : Int) = ((f0 ^^^ 1 : Nat) : Int) := bits_xor8 f0 1 hil (by omega)
            have hfl : f0 ^^^ 1 < 256 := Gf.xor_lt hil (by omega)
            have hpiv : pivF c L1 = mixF (f0 ^^^ 1) T T := by unfold pivF; rw [hTe, ha, Int.toNat_natCast, hf0]
            obtain ⟨f, hfe⟩ : ∃ q, f0 ^^^ 1 = q := ⟨_, rfl⟩
            rw [hfe] at v4 hfl hpiv
            have hcm : Hid (∀ X v4, Ext wc X → Rd8 X v4 T → v4.ownBlock ≠ some y1 → Calls Try.prog 82 #[.slice (some ⟨y1, 0, none⟩) W y2, v4, .int .u8 (f : Int), .pointer (some ⟨p, 0, none⟩)] X fun e w' => e = .returned (.tuple #[]) ∧ Hid (Own8 w' B (.slice (some ⟨y1, 0, none⟩) W y2) (pivF c L1)) ∧ Hid (Chg [y1] wc w')) := hidden (fun X v4 hX hR hne => (comb_any f gt p B y1 W y2 T T hfl hrb hrb hrl hrl hW1 v4 X (own_ext hrow hX) hR hne (hBpc.ext hX) (hTc.ext hX)).mono (by
              rintro e w' ⟨h1, h2, h3⟩
              exact ⟨h1, hidden (by rw [hpiv]; exact h2), hidden ((Chg.of_ext [y1] hX).trans h3 (fun x hx => Or.inl hx))⟩))
            replace hGc := hidden hGc.out
            replace hTc := hidden hTc
            replace hBpc := hidden hBpc
            replace hBcc := hidden hBcc
            replace hXwc := hidden hXwc
            replace hrow := hidden hrow
            replace hpiv := hidden hpiv
            replace hrb := hidden hrb
            clear hf0 hfe ha hTe hil hal
            go_upto_region 17 with fail
            go_cut [] (fun wx => Hid (Own8 wx B (.slice (some ⟨y1, 0, none⟩) W y2) (pivF c L1)) ∧ Hid (Chg [y1] wc wx))
            case first =>
              -- BEGIN17
              refine wp_region_D (S := fun w' : World => w'.cell? ⟨p, 0, none⟩ = some (.pointer (some ⟨gt, 0, none⟩)) ∧ w'.cell? ⟨cb, 0, none⟩ = some (.int .i64 (c : Int)) ∧ w'.cell? ⟨y1, c, none⟩ = some (.int .u8 (a : Int))) (D := [11]) (by kernel_rfl) ⟨cp0, cc2, cel⟩ (fun HS => ?_)
              refine takeD 0 [11] (.func (.func 82) #[] #[.pointer (some ⟨p, 0, none⟩)]) rfl rfl (by kernel_rfl) (by kernel_rfl) (by kernel_rfl) (by kernel_rfl) (by decide) (by decide) (fun _ _ _ h => h) (by rfl) (fun w' hw' => by go_simp) HS ?_
              try simp only [List.setIfInBounds_toArray, List.set_cons_zero, List.set_cons_succ]
              refine takeD 1 [11] (.slice (some ⟨y1, 0, none⟩) W y2) rfl rfl (by kernel_rfl) (by kernel_rfl) (by kernel_rfl) (by kernel_rfl) (by decide) (by decide) (fun _ _ _ h => h) (by rfl) (fun w' hw' => by go_simp) HS ?_
              try simp only [List.setIfInBounds_toArray, List.set_cons_zero, List.set_cons_succ]
              refine takeD 2 [3, 9, 10, 11] (.slice (some ⟨y1, 0, none⟩) W y2) rfl rfl (by kernel_rfl) (by kernel_rfl) (by kernel_rfl) (by kernel_rfl) (by decide) (by decide) (fun _ _ _ h => h) (by rfl) (fun w' hw' => by go_simp) HS ?_
              try simp only [List.setIfInBounds_toArray, List.set_cons_zero, List.set_cons_succ]
              refine takeD 4 [9, 10, 11] (.pointer (some ⟨gt, 0, none⟩)) rfl rfl (by kernel_rfl) (by kernel_rfl) (by kernel_rfl) (by kernel_rfl) (by decide) (by decide) (fun _ _ _ h => h) (by rfl) (fun w' hw' => by obtain ⟨s1, s2, s3⟩ := hw'; go_simp) HS ?_
              try simp only [List.setIfInBounds_toArray, List.set_cons_zero, List.set_cons_succ]
              refine takeD 5 [7, 8, 9, 10, 11] (.slice (some ⟨y1, 0, none⟩) W y2) rfl rfl (by kernel_rfl) (by kernel_rfl) (by kernel_rfl) (by kernel_rfl) (by decide) (by decide) (fun _ _ _ h => h) (by rfl) (fun w' hw' => by go_simp) HS ?_
              try simp only [List.setIfInBounds_toArray, List.set_cons_zero, List.set_cons_succ]
              refine takeD 6 [7, 8, 9, 10, 11] (.int .i64 (c : Int)) rfl rfl (by kernel_rfl) (by kernel_rfl) (by kernel_rfl) (by kernel_rfl) (by decide) (by decide) (fun _ _ _ h => h) (by rfl) (fun w' hw' => by obtain ⟨s1, s2, s3⟩ := hw'; go_simp) HS ?_
              try simp only [List.setIfInBounds_toArray, List.set_cons_zero, List.set_cons_succ]
              refine takeD 7 [8, 9, 10, 11] (.pointer (some ⟨y1, c, none⟩)) rfl rfl (by kernel_rfl) (by kernel_rfl) (by kernel_rfl) (by kernel_rfl) (by decide) (by decide) (fun _ _ _ h => h) (by rfl) (fun w' hw' => by go_simp) HS ?_
              try simp only [List.setIfInBounds_toArray, List.set_cons_zero, List.set_cons_succ]
              refine takeD 8 [9, 10, 11] (.int .u8 (a : Int)) rfl rfl (by kernel_rfl) (by kernel_rfl) (by kernel_rfl) (by kernel_rfl) (by decide) (by decide) (fun _ _ _ h => h) (by rfl) (fun w' hw' => by obtain ⟨s1, s2, s3⟩ := hw'; go_simp) HS ?_
              try simp only [List.setIfInBounds_toArray, List.set_cons_zero, List.set_cons_succ]
              refine callVD 3 46 #[.slice (some ⟨y1, 0, none⟩) W y2] rfl rfl (by kernel_rfl) (by rfl) (by go_simp) (hclo.out wc.drew (Ext.refl wc).drew) ?_
              rintro e u1 ⟨v5, rfl, hR4, hne4, hX4, e1, e2, e3⟩
              have HS1 : (fun w' : World => w'.cell? ⟨p, 0, none⟩ = some (.pointer (some ⟨gt, 0, none⟩)) ∧ w'.cell? ⟨cb, 0, none⟩ = some (.int .i64 (c : Int)) ∧ w'.cell? ⟨y1, c, none⟩ = some (.int .u8 (a : Int))) (u1) := ⟨e1, e2, e3⟩
              refine Or.inl ⟨_, rfl, fun _ => HS1, ?_⟩
              try simp only [List.setIfInBounds_toArray, List.set_cons_zero, List.set_cons_succ]
              refine callVD 9 57 #[.pointer (some ⟨gt, 0, none⟩), .int .u8 (a : Int)] rfl rfl (by kernel_rfl) (by rfl) (by go_simp) (hiv.out u1 hX4) ?_
              rintro e u2 ⟨rfl, k, rfl⟩
              have HS2 : (fun w' : World => w'.cell? ⟨p, 0, none⟩ = some (.pointer (some ⟨gt, 0, none⟩)) ∧ w'.cell? ⟨cb, 0, none⟩ = some (.int .i64 (c : Int)) ∧ w'.cell? ⟨y1, c, none⟩ = some (.int .u8 (a : Int))) (u1.drewN k) := ⟨((Ext.refl u1).drewN k).cell e1, ((Ext.refl u1).drewN k).cell e2, ((Ext.refl u1).drewN k).cell e3⟩
              refine Or.inl ⟨_, rfl, fun _ => HS2, ?_⟩
              try simp only [List.setIfInBounds_toArray, List.set_cons_zero, List.set_cons_succ]
              refine takeD 10 [11] (.int .u8 (f : Int)) rfl rfl (by kernel_rfl) (by kernel_rfl) (by kernel_rfl) (by kernel_rfl) (by decide) (by decide) (fun _ _ _ h => h) (by rfl) (fun w' hw' => by go_simp) HS2 ?_
              try simp only [List.setIfInBounds_toArray, List.set_cons_zero, List.set_cons_succ]
              refine callVD 11 82 #[.slice (some ⟨y1, 0, none⟩) W y2, v5, .int .u8 (f : Int), .pointer (some ⟨p, 0, none⟩)] rfl rfl (by kernel_rfl) (by rfl) (by go_simp) (hcm.out (u1.drewN k) v5 (hX4.drewN k) (hR4.out _ ((Ext.refl u1).drewN k)) hne4) ?_
              rintro e u3 ⟨rfl, hOz, hCz⟩
              refine Or.inl ⟨_, rfl, fun h => absurd (by simp) h, ?_⟩
              try simp only [List.setIfInBounds_toArray, List.set_cons_zero, List.set_cons_succ]
              refine wpAnyD_done (by kernel_rfl) ?_ _
              show _
              go_wp2_with fail
              go_meet
              exact ⟨hOz, hCz⟩
            case rest =>
              obtain ⟨hOz, hCz⟩ := hcut
              have hPl : (pivF c L1).length = W := by rw [hpiv.out, mixF_len]; exact hrl
              have hPb : Bytes (pivF c L1) := by rw [hpiv.out]; exact mixF_bytes f hrb.out hrb.out
              have hy1B := (own_lt hrow.out (x := y1) rfl).1
              have hGz := hGc.out.setRow hcn (T := pivF c L1) (by unfold RV; rw [hy1, hy2]; exact hOz.out) hPl hPb (by rw [hy1]; exact hCz.out)
              have hTz : Hid (Tab wc gt) := hidden (Blk.chg hTc.out hCz.out (by simp; intro e; exact own_ne_blk hrow.out hTc.out (by decide) (by rw [e]; rfl)))
              have hBpz : Hid (Blk wc p 98 [.pointer (some ⟨gt, 0, none⟩)]) := hidden (hBpc.out.chg hCz.out (by simp; intro e; exact own_ne_blk hrow.out hBpc.out (by decide) (by rw [e]; rfl)))
              have hBcz : Hid (Blk wc cb 3 [.int .i64 (c : Int)]) := hidden (hBcc.out.chg hCz.out (by simp; intro e; exact own_ne_blk hrow.out hBcc.out (by decide) (by rw [e]; rfl)))
              have hXz : Hid (Ext w wc) := hidden (Chg.ext ((Chg.of_ext [] hXwc.out).trans hCz.out (fun x hx => Or.inr (by simp at hx; omega))))
              obtain ⟨P, hPe⟩ : ∃ q, pivF c L1 = q := ⟨_, rfl⟩
              obtain ⟨L2, hL2⟩ : ∃ q, L1.set c P = q := ⟨_, rfl⟩
              have hl2 : L2.length = n := by rw [← hL2, List.length_set]; exact hGc.out.len
              have hl2c : L2.getD c [] = P := by rw [← hL2, set_getD (by rw [hGc.out.len]; exact hcn), if_pos rfl]
              have hS : redK M (c + 1) = clrF c n P L2 := by
                rw [hKs.out]
                show clrF c ((swL K c (c + z)).set c (pivF c (swL K c (c + z)))).length (((swL K c (c + z)).set c (pivF c (swL K c (c + z)))).getD c []) ((swL K c (c + z)).set c (pivF c (swL K c (c + z)))) = _
                rw [hs, hL1, hPe, hL2, hl2, hl2c]
              rw [hPe] at hPl hPb hGz
              rw [hL2] at hGz
              replace hGz := hidden hGz
              replace hPb := hidden hPb
              replace hS := hidden hS
              replace hl2c := hidden hl2c
              clear hOz hCz hpiv hrb hrow hTc hBpc hBcc hXwc hGc hclo hiv hcm cc2 cp0 cpv cel hrl hPe hL2 hKs hL1 v4
              go_upto_region 19 with fail
              go_loopw [85] (fun u wr => ∃ i : Nat, u = .int .i64 (i : Int) ∧ i ≤ n ∧ Hid (GM wr B (.slice (some ⟨ob, 0, none⟩) n cv) n W g2 cp2 (clrF c i P L2)) ∧ Hid (Tab wr gt) ∧ Hid (Blk wr p 98 [.pointer (some ⟨gt, 0, none⟩)]) ∧ Hid (Blk wr cb 3 [.int .i64 (c : Int)]) ∧ Hid (Ext w wr)) (fun u _ => n - (intOf u).toNat)
              case atStart => exact ⟨0, rfl, by omega, hidden (by rw [clrF_zero]; exact hGz.out), hTz, hBpz, hBcz, hXz⟩
              case round =>
                clear hGz hTz hBpz hBcz hXz
                obtain ⟨i, rfl, hi9, hG, hT, hBp, hBc, hX⟩ := hrel
                have v9 : IntKind.i64.wrap ((i : Int) + 1) = (i : Int) + 1 := IntWalk.i64_in _ (by omega)
                obtain ⟨w7, hWW⟩ : ∃ X, X = wr := ⟨_, rfl⟩
                subst hWW
                have cc2 := hBc.out.cell 0 _ rfl
                by_cases hin : i < n
                · have hin2 : (i : Int) < (n : Int) := by omega
                  have cr := hG.out.cell hin
                  by_cases hic : i = c
                  · subst hic
                    have hn1 : ((i : Int) != (i : Int)) = false := by simp
                    go_wp2_with fail
                    go_roundw
                    case rel => exact ⟨i + 1, by go_num, by omega, hidden (by rw [clrF_skip]; exact hG.out), hT, hBp, hBc, hX⟩
                    case measure => simp [intOf]; omega
                  · have hn1 : ((i : Int) != (c : Int)) = true := by simp; omega
                    have hn2 : ((i : Int) == (c : Int)) = false := by simp; omega
                    have hn3 : ¬ (i : Int) = (c : Int) := by omega
                    have hri := hG.out.rows i hin
                    have hwi := hG.out.wid i hin
                    have hbi := hG.out.byt i hin
                    rw [clrF_get c i P L2 i (by omega), if_neg (by omega)] at hri hwi hbi
                    have hrc := hG.out.rows c hcn
                    rw [clrF_get c i P L2 c (by omega), if_neg (by omega), hl2c.out] at hrc
                    have hgi : g2 c ≠ g2 i := fun e => hic (hG.out.inj c i hcn hin e).symm
                    have hstep := clrF_step c i P L2 (by omega) hic
                    unfold RV at hri hrc
                    rw [hy1, hy2] at hrc
                    rw [hy1] at hgi
                    obtain ⟨R, hRe⟩ : ∃ q, L2.getD i [] = q := ⟨_, rfl⟩
                    rw [hRe] at hri hwi hbi hstep
                    have cel := hri.rd.at c (by omega)
                    obtain ⟨a, ha, hal⟩ : ∃ x : Nat, R.getD c 0 = (x : Int) ∧ x < 256 := ⟨(R.getD c 0).toNat, by have := hbi.get c (by omega); omega, by have := hbi.get c (by omega); omega⟩
                    rw [ha, Nat.zero_add] at cel
                    rw [ha, Int.toNat_natCast] at hstep
                    have hcb9 := comb_any a gt p B (g2 i) W (cp2 i) R P hal hbi hPb.out hwi hPl hW1 (.slice (some ⟨y1, 0, none⟩) W y2) w7 hri hrc.rd (by simp [Value.ownBlock]; exact hgi) hBp.out hT.out
                    replace hcb9 := hidden hcb9
                    have hfin : Hid (∀ w8, CombP w7 B (g2 i) W (cp2 i) (mixF a R P) (.returned (.tuple #[])) w8 → GM w8 B (.slice (some ⟨ob, 0, none⟩) n cv) n W g2 cp2 (clrF c (i + 1) P L2) ∧ Tab w8 gt ∧ Blk w8 p 98 [.pointer (some ⟨gt, 0, none⟩)] ∧ Blk w8 cb 3 [.int .i64 (c : Int)] ∧ Ext w w8) := hidden (fun w8 h8 => by
                      obtain ⟨-, h81, h82⟩ := h8
                      refine ⟨?_, Blk.chg hT.out h82 (by simp; intro e; exact own_ne_blk hri hT.out (by decide) (by rw [e]; rfl)), hBp.out.chg h82 (by simp; intro e; exact own_ne_blk hri hBp.out (by decide) (by rw [e]; rfl)), hBc.out.chg h82 (by simp; intro e; exact own_ne_blk hri hBc.out (by decide) (by rw [e]; rfl)), Chg.ext ((Chg.of_ext [] hX.out).trans h82 (fun x hx => Or.inr (by simp at hx; have := (own_lt hri (x := g2 i) rfl).1; omega)))⟩
                      rw [hstep]
                      exact hG.out.setRow hin h81 (by rw [mixF_len]; exact hwi) (mixF_bytes a hbi hPb.out) h82)
                    have hcW9 : (c : Int) < (W : Int) := by omega
                    clear hG hT hBp hBc hX hri hrc hstep hbi hRe ha
                    go_wp2_with fail
                    refine hcb9.out.mono ?_
                    rintro e w8 ⟨rfl, h81, h82⟩
                    obtain ⟨k1, k2, k3, k4, k5⟩ := hfin.out w8 ⟨rfl, h81, h82⟩
                    replace k1 := hidden k1
                    replace k2 := hidden k2
                    replace k3 := hidden k3
                    replace k4 := hidden k4
                    replace k5 := hidden k5
                    clear h81 h82 hcb9 hfin cc2 cr cel
                    go_wp2_with fail
                    go_roundw
                    case rel => exact ⟨i + 1, by go_num, by omega, k1, k2, k3, k4, k5⟩
                    case measure => simp [intOf]; omega
                · have hie : i = n := by omega
                  have hk11 : decide ((i : Int) < (n : Int)) = false := decide_eq_false (by omega)
                  have hG9 := hG.out
                  rw [hie, ← hS.out] at hG9
                  have hG10 : Hid (∀ w8, Ext w7 w8 → GM w8 B (.slice (some ⟨ob, 0, none⟩) n cv) n W g2 cp2 (redK M (c + 1))) := hidden (fun w8 h => hG9.ext h)
                  clear hG hG9
                  go_wp2_with fail
                  go_roundw
                  case rel =>
                    refine ⟨c + 1, w7.heap.size, g2, cp2, by go_num, rfl, by omega, hX.out.size, hidden (hG10.out _ ?_), hidden (hT.out.ext ?_), hidden (hBp.out.ext ?_), hidden ?_, hidden (hX.out.trans ?_)⟩
                    all_goals first
                      | exact (Ext.refl w7).alloc _
                      | exact Chg.ext (((Chg.refl [] w7).alloc _).setCell (Or.inr (Nat.le_refl _)) _)
                      | exact Blk.new w7 [.int .i64 ((c + 1 : Nat) : Int)] 3
                      | exact (Blk.new w7 [.int .i64 (c : Int)] 3).set 0 (.int .i64 ((c + 1 : Nat) : Int))
                      | trace_state
                  case measure => simp [intOf]; omega
        · have hke2 : c = m := by omega
          have hG5 := hG.out
          rw [hke2] at hG5
          have hk9 : decide ((c : Int) < (m : Int)) = false := decide_eq_false (by omega)
          replace hG5 := hidden hG5
          clear hG
          go_wp2_with fail
          refine bodyPost_ret (results_tmp2 rfl _ _ _) rfl ?_
          have hG6 := hG5.out
          exact ⟨_, g, cp, by rw [hke2]; rfl, ⟨own_base hG6.own hBs, fun i hi => own_base (hG6.rows i hi) hBs, hG6.len, hG6.wid, hG6.byt, hG6.inj⟩, hX.out⟩
end Go.Proofs.Ytpfelklhejpnnaa

/- make([]byte, n): its cells are owned zeros; a one in it. -/
namespace Go.Proofs.Ytpfelklhejpnnaa
open Go.RowKit
set_option linter.unusedVariables false
set_option linter.unusedSimpArgs false

theorem mk_bytes (n : Nat) (hn : n ≤ 1000000) (W : World) : (Instr.makeSlice 22 (.int .i64 (n : Int)) (.int .i64 (n : Int))).run Try.prog W = .ok (.slice (some ⟨W.heap.size, 0, none⟩) n n) (W.alloc (.cells (madeCells (Value.int .u8 0).cells n) 5)) := by
  obtain ⟨i1, hi, hz0, hz1, hz2⟩ := info_parts u8info
  have := run_make (P := Try.prog) W 22 5 i1 (.int .u8 0) Try.underlying22 hi hz0 .i64 .i64 (n : Int) (n : Int) (by omega) (Int.le_refl _) (by rw [hz2]; omega) (by omega)
  rw [hz1, Nat.mul_one, Int.toNat_natCast] at this
  exact this
theorem made_bytes (n : Nat) : (madeCells (Value.int .u8 0).cells n).toList = bs (List.replicate n 0) := by
  have e : (Value.int .u8 0).cells = #[Value.int .u8 0] := rfl
  have : (madeCells (Value.int .u8 0).cells n).toList = List.replicate n (Value.int .u8 0) := by
    apply List.ext_getElem
    · simp [size_madeCells]
    · intro i h1 h2
      simp [madeCells, e, Nat.mod_one]
  rw [this]
  simp [bs]
theorem own_bytes (w : World) (n : Nat) (hn : n ≤ 1000000) : Own8 (w.alloc (.cells (madeCells (Value.int .u8 0).cells n) 5)) w.heap.size (.slice (some ⟨w.heap.size, 0, none⟩) n n) (List.replicate n 0) := by
  unfold Own8
  refine ⟨by rw [bs_len]; omega, Or.inr ⟨w.heap.size, n, madeCells (Value.int .u8 0).cells n, by simp, Nat.le_refl _, heap_alloc_new w _, by simp, by unfold maxLen; omega, by rw [size_madeCells]; simp [Value.cells], ?_⟩⟩
  rw [made_bytes, List.take_of_length_le (by rw [bs_len]; simp)]
/-- A row of the unit matrix. -/
def unitR (n i : Nat) : List Int := (List.replicate n 0).set i 1
theorem unitR_len (n i : Nat) : (unitR n i).length = n := by simp [unitR]
theorem unitR_bytes (n i : Nat) : Bytes (unitR n i) := by
  intro x hx
  rcases List.mem_or_eq_of_mem_set hx with h | h
  · rw [List.mem_replicate] at h; omega
  · omega
theorem unit_own {w : World} {B g n cap : Nat} (h : Own8 w B (.slice (some ⟨g, 0, none⟩) n cap) (List.replicate n 0)) (i : Nat) : Own8 (w.setCell ⟨g, i, none⟩ (.int .u8 1)) B (.slice (some ⟨g, 0, none⟩) n cap) (unitR n i) := Own8.set h i 1
/-- The matrix and the unit matrix side by side. -/
def wideF (M : List (List Int)) (n : Nat) : List (List Int) := (List.range n).map fun i => M.getD i [] ++ unitR n i
/-- The inverse. -/
def invF (M : List (List Int)) (n : Nat) : List (List Int) := (redK (wideF M n) n).map (·.drop n)
theorem wideF_len (M : List (List Int)) (n : Nat) : (wideF M n).length = n := by simp [wideF]
theorem wideF_take (M : List (List Int)) (n k : Nat) (hk : k < n) : (wideF M n).take (k + 1) = (wideF M n).take k ++ [M.getD k [] ++ unitR n k] := by
  rw [List.take_add_one, show (wideF M n)[k]? = some (M.getD k [] ++ unitR n k) from by simp [wideF, hk]]
  rfl
theorem wideF_wide {M : List (List Int)} {n : Nat} (hl : M.length = n) (hw : Wide M n) : Wide (wideF M n) (n + n) := by
  intro l hl2
  unfold wideF at hl2
  rw [List.mem_map] at hl2
  obtain ⟨i, hi, rfl⟩ := hl2
  rw [List.mem_range] at hi
  rw [List.length_append, unitR_len, hw.at (by omega)]
theorem wideF_bytes {M : List (List Int)} {n : Nat} (hl : M.length = n) (hb : ∀ l ∈ M, Bytes l) : ∀ l ∈ wideF M n, Bytes l := by
  intro l hl2
  unfold wideF at hl2
  rw [List.mem_map] at hl2
  obtain ⟨i, hi, rfl⟩ := hl2
  rw [List.mem_range] at hi
  intro x hx
  rcases List.mem_append.1 hx with hx | hx
  · refine hb (M.getD i []) ?_ x hx
    rw [List.getD_eq_getElem?_getD, List.getElem?_eq_getElem (show i < M.length by omega)]
    exact List.getElem_mem _
  · exact unitR_bytes n i x hx
end Go.Proofs.Ytpfelklhejpnnaa

/- A byte string stored among others (OL.set); parity.matrix. -/
namespace Go.Proofs.Ytpfelklhejpnnaa
open Go.RowKit
set_option linter.unusedVariables false
set_option linter.unusedSimpArgs false
attribute [local go_sem ↓] Go.wp_at_zero Go.wp_at_succ

/-- One byte string is another one. -/
theorem OL.set {w : World} {B ob n cap : Nat} {L : List (List Int)} (h : OL w B (.slice (some ⟨ob, 0, none⟩) n cap) L) {i : Nat} (hi : i < n) {u : Value} {l : List Int} (hu : Rd8 w u l) (hne : 0 < l.length → u.ownBlock ≠ some ob) :
    OL (w.setCell ⟨ob, i, none⟩ u) B (.slice (some ⟨ob, 0, none⟩) n cap) (L.set i l) := by
  have hLn := h.rl.len
  obtain ⟨vs, h1, h2, h3⟩ := h
  rw [hLn] at h1
  have hvl : vs.length = n := by have := h1.1; omega
  have hC : Chg [ob] w (w.setCell ⟨ob, i, none⟩ u) := (Chg.refl [ob] w).setCell (Or.inl (by simp)) _
  have hs := (World.ownsRow.stored h1 i u).1
  refine ⟨vs.set i u, by rw [List.length_set, hLn]; exact hs, ⟨by simp [hvl, hLn], fun j u' C hv hc => ?_⟩, fun j u' hv hl g hg => ?_⟩
  · by_cases hji : i = j
    · subst hji
      rw [List.getElem?_set_self (by omega)] at hv
      rw [List.getElem?_map, List.getElem?_set_self (by omega)] at hc
      simp at hv hc
      subst hv hc
      rw [bs_len]
      exact Rd.chg hu hC (fun x hx h0 => by simp at hx; subst hx; exact hne h0)
    · rw [List.getElem?_set_ne hji] at hv
      rw [List.getElem?_map, List.getElem?_set_ne hji, ← List.getElem?_map] at hc
      refine Rd.chg (h2.2 j u' C hv hc) hC (fun x hx h0 => ?_)
      simp at hx
      subst hx
      rw [List.getElem?_map] at hc
      cases hLj : L[j]? with
      | none => rw [hLj] at hc; simp at hc
      | some lj =>
        rw [hLj] at hc
        simp at hc
        subst hc
        refine h3 j u' hv ?_ _ rfl
        rw [List.getD_eq_getElem?_getD, hLj]
        simpa [bs] using h0
  · have hg' : ob = g := by simpa [Value.ownBlock] using hg
    subst hg'
    by_cases hji : i = j
    · subst hji
      rw [List.getElem?_set_self (by omega)] at hv
      rw [List.getD_eq_getElem?_getD, List.getElem?_set_self (by omega)] at hl
      simp at hv hl
      subst hv
      exact hne (by omega)
    · rw [List.getElem?_set_ne hji] at hv
      rw [List.getD_eq_getElem?_getD, List.getElem?_set_ne hji, ← List.getD_eq_getElem?_getD] at hl
      exact h3 j u' hv hl _ rfl
theorem mk_rows (n c : Nat) (hnc : n ≤ c) (hn : c ≤ 1000000) (W : World) : (Instr.makeSlice 26 (.int .i64 (n : Int)) (.int .i64 (c : Int))).run Try.prog W = .ok (.slice (some ⟨W.heap.size, 0, none⟩) n c) (W.alloc (.cells (madeCells #[.slice none 0 0] c) 22)) := by
  obtain ⟨i1, hi, hz0, hz1, hz2⟩ := info_parts s8info
  have := run_make (P := Try.prog) W 26 22 i1 (.slice none 0 0) Try.underlying26 hi hz0 .i64 .i64 (n : Int) (c : Int) (by omega) (by omega) (by rw [hz2]; omega) (by omega)
  rw [hz1, Nat.mul_one, Int.toNat_natCast, Int.toNat_natCast] at this
  exact this
theorem made_rows (n : Nat) : (madeCells #[Value.slice none 0 0] n).toList = List.replicate n (Value.slice none 0 0) := by
  apply List.ext_getElem
  · simp [size_madeCells]
  · intro i h1 h2
    simp [madeCells, Nat.mod_one]
theorem own_rows (w : World) (n c : Nat) (hnc : n ≤ c) (hn : c ≤ 1000000) : OL (w.alloc (.cells (madeCells #[.slice none 0 0] c) 22)) w.heap.size (.slice (some ⟨w.heap.size, 0, none⟩) n c) (List.replicate n []) := by
  refine ⟨List.replicate n (.slice none 0 0), ?_, ⟨by simp, fun i u C hu hC => ?_⟩, fun i u hu hl => ?_⟩
  · rw [List.length_replicate]
    refine ⟨by simp, Or.inr ⟨w.heap.size, c, madeCells #[.slice none 0 0] c, rfl, Nat.le_refl _, heap_alloc_new w _, hnc, by unfold maxLen; omega, by rw [size_madeCells]; simp, ?_⟩⟩
    rw [made_rows, List.take_replicate]
    congr 1
    omega
  · rw [List.getElem?_replicate] at hu
    rw [List.getElem?_map, List.getElem?_replicate] at hC
    split at hu
    · simp at hu
      subst hu
      rename_i hlt
      rw [if_pos hlt] at hC
      simp [bs] at hC
      subst hC
      exact Rd.nil _ 1
    · simp at hu
  · exfalso
    rw [List.getD_eq_getElem?_getD, List.getElem?_replicate] at hl
    split at hl <;> simp at hl
end Go.Proofs.Ytpfelklhejpnnaa
