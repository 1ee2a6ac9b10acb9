/- Layer 33: Forward. -/
import Derived.Test.YtfebgcbkadmgiaaSfi
import Derived.Test.YtfebgcbkadmgiaaSfj
namespace Go.Proofs.Ytfebgcbkadmgiaa
open Go.RowKit
set_option linter.unusedVariables false
set_option linter.unusedSimpArgs false
attribute [local go_sem ↓] Go.wp_at_zero Go.wp_at_succ

theorem tr_step {b : List Int} {o : List Nat} {k : Nat} (hk : k < o.length) : Suf.tr b (o.take (k + 1)) = Suf.tr b (o.take k) ++ (if o.getD k 0 = 0 then [] else [b.getD (o.getD k 0 - 1) 0]) := by
  have e : o.getD k 0 = o[k] := by rw [List.getD_eq_getElem?_getD, List.getElem?_eq_getElem hk]; rfl
  rw [e]
  unfold Suf.tr
  rw [List.take_add_one, List.getElem?_eq_getElem hk, List.filter_append, List.map_append]
  congr 1
  by_cases h : o[k] = 0
  · rw [if_pos h]; simp [h]
  · rw [if_neg h]; simp [h]
theorem tr_bytes {b : List Int} (hb : Bytes b) {o : List Nat} (ho : ∀ x ∈ o, x ≤ b.length) : Bytes (Suf.tr b o) := by
  intro x hx
  unfold Suf.tr at hx
  obtain ⟨p, hp, rfl⟩ := List.mem_map.1 hx
  obtain ⟨hp1, hp2⟩ := List.mem_filter.1 hp
  have := ho p hp1
  have h0 : p ≠ 0 := by simpa using hp2
  exact hb.get _ (by omega)
theorem idx_zero {b : List Int} {o : List Nat} (h : Suf.IsSA b o) : Lib.idxOf ((o.map fun x : Nat => (x : Int)).take (b.length + 1)) 0 = (Suf.rk b 0 : Int) := by
  obtain ⟨h1, h2⟩ := h.at_ (Nat.zero_le b.length)
  have g : ∀ j, j < o.length → (o.map fun x : Nat => (x : Int)).getD j 0 = ((o.getD j 0 : Nat) : Int) := fun j hj => by simp [List.getD, hj]
  have e : ∀ j (hj : j < o.length), o.getD j 0 = o[j] := fun j hj => by rw [List.getD_eq_getElem?_getD, List.getElem?_eq_getElem hj]; rfl
  have h1' := h1
  rw [h.len] at h1'
  refine Lib.idxOf_hit _ _ _ _ h1' (by simp [h.len]) ?_ fun j hj hz => ?_
  · rw [g _ h1, e _ h1, h2]; rfl
  · have hjo : j < o.length := by omega
    rw [g j hjo, e j hjo] at hz
    have h3 : o[j] = 0 := by omega
    have := h.row j hjo
    rw [h3] at this
    omega
theorem u8infoK : (Try.prog.info? 5).map (fun i => (i.zero, i.size, i.bytes)) = some (some (.int .u8 0), 1, 1) := by kernel_rfl
theorem mk_bytes0 (n : Nat) (hn : n ≤ 1000000) (W : World) : (Instr.makeSlice 22 (.int .i64 0) (.int .i64 (n : Int))).run Try.prog W = .ok (.slice (some ⟨W.heap.size, 0, none⟩) 0 n) (W.alloc (.cells (madeCells (Value.int .u8 0).cells n) 5)) := by
  obtain ⟨i1, hi, hz0, hz1, hz2⟩ := info_parts u8infoK
  have := run_make (P := Try.prog) W 22 5 i1 (.int .u8 0) Try.underlying22 hi hz0 .i64 .i64 0 (n : Int) (by omega) (by omega) (by rw [hz2]; omega) (by omega)
  rw [hz1, Nat.mul_one, Int.toNat_natCast] at this
  exact this
theorem own_bytes0 (w : World) (n : Nat) (hn : n ≤ 1000000) : Own8 (w.alloc (.cells (madeCells (Value.int .u8 0).cells n) 5)) w.heap.size (.slice (some ⟨w.heap.size, 0, none⟩) 0 n) [] :=
  World.ownsRow_made w _ n (Nat.le_refl _) (by unfold maxLen; omega) (by rw [size_madeCells]; omega)

def FwdP (w : World) (b : List Int) (e : Ending) (w' : World) : Prop := ∃ o v, e = .returned (.tuple #[v, .int .i64 (Suf.rk b 0 : Int), .int .i64 0]) ∧ Suf.IsSA b o ∧ Own8 w' w.heap.size v (Suf.tr b o) ∧ Ext w w'

set_option maxRecDepth 100000 in
set_option maxHeartbeats 2000000 in
theorem forward_any (v : Value) (b : List Int) (hb : Bytes b) (hn : b.length ≤ 1000) (w : World) (hr : Rd8 w v b) :
    Calls Try.prog 7 #[v] w (FwdP w b) := by
  have hsort := sort_any v b hb (by omega) w hr
  obtain ⟨ad, cap, rfl, q1, q2, q3⟩ := Rd.shape hr
  obtain ⟨n, hne⟩ : ∃ n, b.length = n := ⟨_, rfl⟩
  have hR : Hid (Rd8 w (.slice ad n cap) b) := hidden (by rw [← hne]; exact hr)
  rw [hne] at q1 hn hsort ⊢
  have hm8 := hidden (mk_bytes0 n (by omega))
  clear hr
  replace hne := hidden hne
  replace hb := hidden hb
  replace hsort := hidden hsort
  go_enter Try.func7, Try.ntmps7
  go_wp2_with fail
  refine hsort.out.mono ?_
  clear hsort
  rintro e w1 ⟨o, p, c1, rfl, hsa, hp, hpw, hc1, hc2, hX⟩
  rw [hne.out] at hc1 ⊢
  replace hsa := hidden hsa
  replace hp := hidden hp
  replace hX := hidden hX
  have hol : Hid (o.length = n + 1) := hidden (by rw [hsa.out.len, hne.out])
  go_wp2_with fail
  have hidx := Try.slices_Index_int p 0 (n + 1) c1 (o.map fun x : Nat => (x : Int)) 0 w1 (by simp [hol.out]) (by omega) (fun j hj => by
    rw [Nat.zero_add]
    have hj2 : j < o.length := by simpa using hj
    rw [hp.out.cell j _ (nv_get o j hj2)]
    simp [List.getD, hj2])
  rw [← hne.out, idx_zero hsa.out, hne.out] at hidx
  refine hidx.mono ?_
  clear hidx
  rintro e w2 ⟨rfl, hw2⟩
  rw [hw2]
  clear hw2 w2
  obtain ⟨rk0, hrk⟩ : ∃ r, Suf.rk b 0 = r := ⟨_, rfl⟩
  rw [hrk]
  replace hrk := hidden hrk
  have hm1 := hm8.out
  have hO0 := own_bytes0 w1 n (by omega)
  have hX1 := hX.out.alloc (.cells (madeCells (Value.int .u8 0).cells n) 5)
  have hp1 := hp.out.alloc (.cells (madeCells (Value.int .u8 0).cells n) 5)
  change Own8 (w1.alloc (.cells (madeCells #[.int .u8 0] n) 5)) _ _ _ at hO0
  change Ext _ (w1.alloc (.cells (madeCells #[.int .u8 0] n) 5)) at hX1
  change Blk (w1.alloc (.cells (madeCells #[.int .u8 0] n) 5)) _ _ _ at hp1
  have hO1 : Own8 (w1.alloc (.cells (madeCells #[.int .u8 0] n) 5)) w1.heap.size (.slice (some ⟨w1.heap.size, 0, none⟩) 0 n) (Suf.tr b (o.take 0)) := hO0
  replace hO1 := hidden hO1
  replace hX1 := hidden hX1
  replace hp1 := hidden hp1
  have hpB : p < w1.heap.size := hp.out.lt
  have hwB : w.heap.size ≤ w1.heap.size := hX.out.size
  clear hO0 hX hp
  go_wp2_with fail
  clear hm1
  obtain ⟨B, hB⟩ : ∃ B, w1.heap.size = B := ⟨_, rfl⟩
  obtain ⟨W1, hW1⟩ : ∃ X, w1.alloc (.cells (madeCells #[.int .u8 0] n) 5) = X := ⟨_, rfl⟩
  rw [hW1] at hO1 hX1 hp1 ⊢
  rw [hB] at hO1 hpB hwB ⊢
  clear hW1 hB
  obtain ⟨i0, hi, hz0, hz1, hz2⟩ := info_parts u8infoK
  replace hi := hidden hi
  go_loopw [26, 8] (fun i u wr => ∃ k : Nat, i = .int .i64 (k : Int) ∧ k ≤ n + 1 ∧ Hid (Own8 wr B u (Suf.tr b (o.take k))) ∧ Hid (Blk wr p 3 (nv o)) ∧ Hid (Ext w wr) ∧ B ≤ wr.heap.size) (fun i _ _ => n + 1 - (intOf i).toNat)
  case atStart => exact ⟨0, rfl, by omega, hO1, hp1, hX1, by
    have := own_lt hO1.out rfl
    omega⟩
  case round =>
    clear hO1 hp1 hX1
    obtain ⟨k, rfl, hk, hO, hp, hX, hBw⟩ := hrel
    have v1 : IntKind.i64.wrap ((k : Int) + 1) = (k : Int) + 1 := IntWalk.i64_in _ (by omega)
    obtain ⟨w2, hWW⟩ : ∃ X, X = wr := ⟨_, rfl⟩
    subst hWW
    by_cases hlt : k < n + 1
    · have hlt2 : (k : Int) < (n : Int) + 1 := by omega
      have cp := hp.out.cell k _ (nv_get o k (by rw [hol.out]; omega))
      have hst := tr_step (b := b) (o := o) (k := k) (by rw [hol.out]; omega)
      have hle : o.getD k 0 ≤ n := by
        have h1 := hsa.out.le k (by rw [hol.out]; omega)
        rw [List.getD_eq_getElem?_getD, List.getElem?_eq_getElem (by rw [hol.out]; omega)]
        rw [hne.out] at h1
        exact h1
      obtain ⟨q, hq⟩ : ∃ q, o.getD k 0 = q := ⟨_, rfl⟩
      rw [hq] at cp hst hle
      obtain ⟨D, hD⟩ : ∃ D, Suf.tr b (o.take k) = D := ⟨_, rfl⟩
      rw [hD] at hO hst
      have hDl : D.length ≤ k := by
        rw [← hD]
        unfold Suf.tr
        rw [List.length_map]
        exact Nat.le_trans (List.length_filter_le _ _) (by rw [List.length_take]; omega)
      clear hD hq
      by_cases hq0 : q = 0
      · subst hq0
        rw [if_pos rfl, List.append_nil] at hst
        replace hst := hidden hst
        go_wp2_with fail
        go_roundw
        case rel => exact ⟨k + 1, by go_num, by omega, hidden (by rw [hst.out]; exact hO.out), hp, hX, hBw⟩
        case measure => simp [intOf]; omega
      · rw [if_neg hq0] at hst
        obtain ⟨m, rfl⟩ : ∃ m, q = m + 1 := ⟨q - 1, by omega⟩
        rw [Nat.add_sub_cancel] at hst
        have hmb : m < b.length := by rw [hne.out]; omega
        have hrd : Rd8 w2 (.slice ad n cap) b := Rd.ext hR.out hX.out
        obtain ⟨bb, off, rfl, hbb⟩ := Rd8.some hrd (by omega)
        have cB := hrd.at m hmb
        obtain ⟨y, hy⟩ : ∃ y, b.getD m 0 = y := ⟨_, rfl⟩
        rw [hy] at cB hst
        replace hst := hidden hst
        have v4 : IntKind.i64.wrap ((m : Int) + 1 - 1) = (m : Int) := by rw [IntWalk.i64_in _ (by omega)]; omega
        have v5 : IntKind.i64.wrap (m : Int) = (m : Int) := IntWalk.i64_in _ (by omega)
        have m1 : (m : Int) < (n : Int) := by omega
        have m2 : (0 : Int) < (m : Int) + 1 := by omega
        have ecp : (((m + 1 : Nat) : Int)) = (m : Int) + 1 := by omega
        rw [ecp] at cp
        clear hrd hmb ecp hq0 hbb hy
        obtain ⟨av, dv, rfl, d1, d2, -⟩ := own_shape hO.out
        obtain ⟨L, hL⟩ : ∃ L, D.length = L := ⟨_, rfl⟩
        rw [hL] at hDl d1 ⊢
        have hO' : Hid (Own8 w2 B (.slice av L dv) D) := by rw [← hL]; exact hO
        have hO2 := hO'.out
        unfold Own8 at hO2
        rw [hL] at hO2
        replace hO2 := hidden hO2
        replace hL := hidden hL
        clear hO hO'
        go_wp2_with (at_builtin; refine wpList_append_own _ rfl _ _ 22 rfl B 5 i0 (.int .u8 0) 1 1 Try.underlying22 hi.out hz0 hz1 hz2 rfl (by decide) _ L (bs D) rfl (World.ownsRow.alloc hO2.out _) ⟨w2.heap.size, 0, none⟩ 1 1 [.int .u8 y] rfl rfl (World.news_of_block (cs := #[.int .u8 y]) (t := 5) (fr := (0, 0)) (heap_alloc_new w2 _)) (by simp [Value.oneCell']) (by unfold maxLen; omega) (by omega) (by simp; omega) ?_; intro v1 w3 hown hgrow hnil)
        have hO3 : Own8 w3 B v1 (Suf.tr b (o.take (k + 1))) := by
          rw [hst.out]
          unfold Own8
          rw [bs_app, List.length_append, hL.out]
          exact hown
        have hlt4 : ∀ x, (Value.slice av L dv).ownBlock = some x → B ≤ x := fun x hx => (own_lt hO2.out hx).1
        have hp3 := (hp.out.alloc (.cells #[.int .u8 y] 5)).grown hgrow (fun e => by have := hlt4 p e; omega)
        have hX3 : Ext w w3 := Chg.ext ((Chg.of_ext [] (hX.out.alloc (.cells #[.int .u8 y] 5))).grown hgrow (fun x hx => Or.inr (by have := hlt4 x hx; omega)))
        have hB3 : B ≤ w3.heap.size := by have := hgrow.size; rw [World.size_alloc] at this; omega
        exact ⟨⟨k + 1, by go_num, by omega, hidden hO3, hidden hp3, hidden hX3, hB3⟩, by simp [intOf]; omega⟩
    · have hkn : k = n + 1 := by omega
      have hO2 := hO.out
      rw [List.take_of_length_le (by rw [hol.out]; omega)] at hO2
      have hlt3 : decide ((k : Int) < (n : Int) + 1) = false := decide_eq_false (by omega)
      replace hO2 := hidden hO2
      replace hkn := hidden hkn
      clear hO
      go_wp2_with fail
      go_ret3
      exact ⟨o, _, by rw [hrk.out]; rfl, hsa.out, own_mono hO2.out hwB, hX.out⟩
end Go.Proofs.Ytfebgcbkadmgiaa
