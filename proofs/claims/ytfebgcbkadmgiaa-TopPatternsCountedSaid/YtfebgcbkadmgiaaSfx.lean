/- Layer 32: Check, Find. -/
import Derived.Test.YtfebgcbkadmgiaaSfw
namespace Go.Proofs.Ytfebgcbkadmgiaa
open Go.RowKit
set_option linter.unusedVariables false
set_option linter.unusedSimpArgs false
attribute [local go_sem ↓] Go.wp_at_zero Go.wp_at_succ

theorem blk_newAt' (w : World) (cs : List Value) (t : TypeId) (b : Nat) (hb : w.heap.size = b) : Blk (w.alloc (.cells cs.toArray t)) b t cs := hb ▸ Blk.new w cs t
set_option maxRecDepth 100000 in
set_option maxHeartbeats 1000000 in
/-- Check says nothing against the order. -/
theorem check_any (v : Value) (b : List Int) (o : List Nat) (h : Suf.IsSA b o) (hb : Bytes b) (hn : b.length ≤ 1000) (p c1 : Nat) (w : World) (hr : Rd8 w v b) (hp : Blk w p 3 (nv o)) :
    Calls Try.prog 24 #[v, .slice (some ⟨p, 0, none⟩) (b.length + 1) c1] w fun e w' => e = .returned (.int .i64 0) ∧ Ext w w' := by
  have hsort := sort_any v b hb (by omega) w hr
  have hrk := fun W (hX : Ext w W) => ranks_any b o h hn p c1 W (hp.ext hX)
  have hol := h.len
  obtain ⟨n, hne⟩ : ∃ n, b.length = n := ⟨_, rfl⟩
  rw [hne] at hol hrk ⊢
  replace hsort := hidden hsort
  replace hrk := hidden hrk
  go_enter Try.func24, Try.ntmps24
  go_wp2_with fail
  refine hsort.out.mono ?_
  rintro e w1 ⟨o2, p2, c2, rfl, hsa, hp2, hpw, hc1, hc2, hX1⟩
  obtain rfl := hsa.unique h
  rw [hne]
  have hr1 := hrk.out w1 hX1
  replace hr1 := hidden hr1
  replace hX1 := hidden hX1
  replace hp2 := hidden hp2
  clear hrk hsort
  go_wp2_with fail
  refine hr1.out.mono ?_
  rintro e w2 ⟨v2, rfl, -, hX2⟩
  have hX3 := hX1.out.trans hX2
  have hE := Try.slices_Equal_int p 0 (n + 1) c1 p2 0 (n + 1) c2 (o2.map fun x : Nat => (x : Int)) (o2.map fun x : Nat => (x : Int)) w2 (by simp [hol]) (by simp [hol]) (by omega) (by omega)
    (fun j hj => by
      have hj2 : j < o2.length := by simpa using hj
      rw [Nat.zero_add, (hp.ext hX3).cell j _ (nv_get o2 j hj2)]; simp [List.getD, hj2])
    (fun j hj => by
      have hj2 : j < o2.length := by simpa using hj
      rw [Nat.zero_add, (hp2.out.ext hX2).cell j _ (nv_get o2 j hj2)]; simp [List.getD, hj2])
  replace hE := hidden hE
  replace hX3 := hidden hX3
  clear hX2
  go_wp2_with fail
  refine hE.out.mono ?_
  rintro e w3 ⟨rfl, k, rfl⟩
  simp only [beq_self_eq_true]
  go_wp2_with fail
  go_ret
  exact ⟨rfl, hX3.out.drewN k⟩
def FindP (w : World) (lo hi : Nat) (e : Ending) (w' : World) : Prop := e = .returned (.tuple #[.int .i64 (lo : Int), .int .i64 (hi : Int), .int .i64 0]) ∧ Ext w w'
set_option maxRecDepth 100000 in
set_option maxHeartbeats 2000000 in
theorem find_any (v vP : Value) (b P : List Int) (o : List Nat) (h : Suf.IsSA b o) (hb : Bytes b) (hn : b.length ≤ 1000) (hL : P.length ≤ 1000) (p c1 : Nat) (w : World) (hr : Rd8 w v b) (hrP : Rd8 w vP P) (hp : Blk w p 3 (nv o)) :
    Calls Try.prog 11 #[v, .slice (some ⟨p, 0, none⟩) (b.length + 1) c1, vP] w (FindP w (Suf.cq Suf.qlo b P) (Suf.cq Suf.qhi b P)) := by
  have hck := fun W (hX : Ext w W) => check_any v b o h hb hn p c1 W (Rd.ext hr hX) (hp.ext hX)
  have hol := h.len
  have tlo := Suf.cq_le Suf.qlo b P
  have thi := Suf.cq_le Suf.qhi b P
  obtain ⟨n, hne⟩ : ∃ n, b.length = n := ⟨_, rfl⟩
  obtain ⟨L, hLe⟩ : ∃ L, P.length = L := ⟨_, rfl⟩
  have hgd : ∀ r, (hr : r ≤ n) → o.getD r 0 = o[r]'(by omega) := fun r hr => by rw [List.getD_eq_getElem?_getD, List.getElem?_eq_getElem (by omega)]; rfl
  have h1 : ∀ r, r ≤ n → (!Suf.qlo (Suf.pre b L (o.getD r 0)) P) = decide (Suf.cq Suf.qlo b P ≤ r) := fun r hr => by
    rw [hgd r hr, ← hLe, h.thr Suf.qlo_ok P (by omega)]
    by_cases c : r < Suf.cq Suf.qlo b P
    · rw [decide_eq_true c, decide_eq_false (by omega)]; rfl
    · rw [decide_eq_false c, decide_eq_true (by omega)]; rfl
  have h2 : ∀ r, r ≤ n → (!Suf.qhi (Suf.pre b L (o.getD r 0)) P) = decide (Suf.cq Suf.qhi b P ≤ r) := fun r hr => by
    rw [hgd r hr, ← hLe, h.thr Suf.qhi_ok P (by omega)]
    by_cases c : r < Suf.cq Suf.qhi b P
    · rw [decide_eq_true c, decide_eq_false (by omega)]; rfl
    · rw [decide_eq_false c, decide_eq_true (by omega)]; rfl
  have hle : ∀ r, r ≤ n → o.getD r 0 ≤ n := fun r hr => by
    rw [hgd r hr]
    have := h.le r (by omega)
    omega
  obtain ⟨lo, hlo⟩ : ∃ lo, Suf.cq Suf.qlo b P = lo := ⟨_, rfl⟩
  obtain ⟨hi, hhi⟩ : ∃ hi, Suf.cq Suf.qhi b P = hi := ⟨_, rfl⟩
  rw [hlo] at tlo h1 ⊢
  rw [hhi] at thi h2 ⊢
  obtain ⟨ad, cap, rfl, q1, q2, q3⟩ := Rd.shape hr
  obtain ⟨pd, cp, rfl, p1, p2, p3⟩ := Rd.shape hrP
  have hR : Hid (Rd8 w (.slice ad n cap) b) := hidden (by rw [← hne]; exact hr)
  have hRP : Hid (Rd8 w (.slice pd L cp) P) := hidden (by rw [← hLe]; exact hrP)
  rw [hne] at hck q1 hn tlo thi ⊢
  rw [hLe] at p1 hL ⊢
  have b0 := (((Blk.new w [.slice ad n cap] 22).alloc (.cells #[.slice (some ⟨p, 0, none⟩) (n + 1) c1] 23)).alloc (.cells #[.slice pd L cp] 22))
  have b1 := ((blk_newAt' (w.alloc (.cells #[.slice ad n cap] 22)) [.slice (some ⟨p, 0, none⟩) (n + 1) c1] 23 (w.heap.size + 1) (by simp)).alloc (.cells #[.slice pd L cp] 22))
  have b2 := (blk_newAt' ((w.alloc (.cells #[.slice ad n cap] 22)).alloc (.cells #[.slice (some ⟨p, 0, none⟩) (n + 1) c1] 23)) [.slice pd L cp] 22 (w.heap.size + 1 + 1) (by simp))
  have hX0 : Ext w (((w.alloc (.cells #[.slice ad n cap] 22)).alloc (.cells #[.slice (some ⟨p, 0, none⟩) (n + 1) c1] 23)).alloc (.cells #[.slice pd L cp] 22)) := (((Ext.refl w).alloc _).alloc _).alloc _
  have hck1 := hck _ hX0
  replace hck1 := hidden hck1
  replace b0 := hidden b0
  replace b1 := hidden b1
  replace b2 := hidden b2
  replace hX0 := hidden hX0
  replace h1 := hidden h1
  replace h2 := hidden h2
  replace hle := hidden hle
  replace hol := hidden hol
  replace hp := hidden hp
  clear hck hgd hlo hhi hr hrP
  replace hne := hidden hne
  replace hLe := hidden hLe
  go_enter Try.func11, Try.ntmps11
  go_wp2_with fail
  refine hck1.out.mono ?_
  rintro e w1 ⟨rfl, hX1⟩
  clear hck1
  obtain ⟨s, hs⟩ : ∃ s, w.heap.size = s := ⟨_, rfl⟩
  have c0 := (b0.out.ext hX1).cell 0 _ rfl
  have c1' := (b1.out.ext hX1).cell 0 _ rfl
  have c2 := (b2.out.ext hX1).cell 0 _ rfl
  have hX2 := hX0.out.trans hX1
  rw [hs] at c0 c1' c2
  rw [hs]
  replace hs := hidden hs
  replace hX2 := hidden hX2
  clear hX1 b0 b1 b2 hX0
  go_upto_region 8 with fail
  have f0 := (Blk.new w1 [.func (.func 25) #[] #[.pointer (some ⟨s + 1, 0, none⟩), .pointer (some ⟨s, 0, none⟩), .pointer (some ⟨s + 1 + 1, 0, none⟩)]] 51).alloc (.cells #[.func (.func 26) #[] #[.pointer (some ⟨w1.heap.size, 0, none⟩), .pointer (some ⟨s + 1 + 1, 0, none⟩)], .func (.func 28) #[] #[.pointer (some ⟨w1.heap.size, 0, none⟩), .pointer (some ⟨s + 1 + 1, 0, none⟩)]] 52)
  have f1 := blk_newAt' (w1.alloc (.cells #[.func (.func 25) #[] #[.pointer (some ⟨s + 1, 0, none⟩), .pointer (some ⟨s, 0, none⟩), .pointer (some ⟨s + 1 + 1, 0, none⟩)]] 51)) [.func (.func 26) #[] #[.pointer (some ⟨w1.heap.size, 0, none⟩), .pointer (some ⟨s + 1 + 1, 0, none⟩)], .func (.func 28) #[] #[.pointer (some ⟨w1.heap.size, 0, none⟩), .pointer (some ⟨s + 1 + 1, 0, none⟩)]] 52 (w1.heap.size + 1) (by simp)
  have X2 : Ext w1 ((w1.alloc (.cells #[.func (.func 25) #[] #[.pointer (some ⟨s + 1, 0, none⟩), .pointer (some ⟨s, 0, none⟩), .pointer (some ⟨s + 1 + 1, 0, none⟩)]] 51)).alloc (.cells #[.func (.func 26) #[] #[.pointer (some ⟨w1.heap.size, 0, none⟩), .pointer (some ⟨s + 1 + 1, 0, none⟩)], .func (.func 28) #[] #[.pointer (some ⟨w1.heap.size, 0, none⟩), .pointer (some ⟨s + 1 + 1, 0, none⟩)]] 52)) := ((Ext.refl w1).alloc _).alloc _
  change Blk ((w1.alloc (.cells #[.func (.func 25) #[] #[.pointer (some ⟨s + 1, 0, none⟩), .pointer (some ⟨s, 0, none⟩), .pointer (some ⟨s + 1 + 1, 0, none⟩)]] 51)).alloc (.cells #[.func (.func 26) #[] #[.pointer (some ⟨w1.heap.size, 0, none⟩), .pointer (some ⟨s + 1 + 1, 0, none⟩)], .func (.func 28) #[] #[.pointer (some ⟨w1.heap.size, 0, none⟩), .pointer (some ⟨s + 1 + 1, 0, none⟩)]] 52)) _ _ _ at f0 f1
  obtain ⟨W2, hW2⟩ : ∃ X, ((w1.alloc (.cells #[.func (.func 25) #[] #[.pointer (some ⟨s + 1, 0, none⟩), .pointer (some ⟨s, 0, none⟩), .pointer (some ⟨s + 1 + 1, 0, none⟩)]] 51)).alloc (.cells #[.func (.func 26) #[] #[.pointer (some ⟨w1.heap.size, 0, none⟩), .pointer (some ⟨s + 1 + 1, 0, none⟩)], .func (.func 28) #[] #[.pointer (some ⟨w1.heap.size, 0, none⟩), .pointer (some ⟨s + 1 + 1, 0, none⟩)]] 52)) = X := ⟨_, rfl⟩
  rw [hW2] at f0 f1 X2 ⊢
  clear hW2
  obtain ⟨fb, hfb⟩ : ∃ fb, w1.heap.size = fb := ⟨_, rfl⟩
  rw [hfb] at f0 f1 ⊢
  clear hfb
  have d0 := X2.cell c0
  have d1 := X2.cell c1'
  have d2 := X2.cell c2
  have e0 := f1.cell 0 _ rfl
  have e1 := f1.cell 1 _ rfl
  have hX3 := hX2.out.trans X2
  have hFM : FM W2 b P o n L (s + 1) s (s + 1 + 1) fb p c1 (.slice ad n cap) (.slice pd L cp) :=
    ⟨d1, d0, d2, f0.cell 0 _ rfl, fun r hr => (hp.out.ext hX3).cell r _ (nv_get o r (by have := hne.out; rw [hol.out]; omega)), hle.out, Rd.ext hR.out hX3, Rd.ext hRP.out hX3, hne.out, hLe.out⟩
  have s1 := fun k => search_any 26 lo (n + 1) fb (s + 1 + 1) tlo (by omega) (W2.drewN k) (enters_of Try.func26 (by kernel_rfl) rfl) (fun r hr m => by
    rw [← h1.out r (by omega)]
    exact find2_any (hFM.drewN k) (by omega) hL r (by omega) m)
  have s2 := fun k => search_any 28 hi (n + 1) fb (s + 1 + 1) thi (by omega) (W2.drewN k) (enters_of Try.func28 (by kernel_rfl) rfl) (fun r hr m => by
    rw [← h2.out r (by omega)]
    exact find3_any (hFM.drewN k) (by omega) hL r (by omega) m)
  rw [show (((n + 1 : Nat) : Int)) = (n : Int) + 1 by omega] at s1 s2
  replace s1 := hidden s1
  replace s2 := hidden s2
  replace hX3 := hidden hX3
  clear h1 h2 hFM f0 f1 hX2 X2 c0 c1' c2 hp hle hol
  go_quiet (first | (go_at_call 29; first | with_reducible exact Calls.quiet_of (s1.out _) | with_reducible exact Calls.quiet_of (s2.out _)))
  go_wp2_with fail
  go_ret3
  exact ⟨rfl, hX3.out.drewN _⟩
end Go.Proofs.Ytfebgcbkadmgiaa
