/- Layer 35: the longest copy at a place, of the program. -/
import Derived.Test.YtlnlffmlficjnaaLs
namespace Go.Proofs.Ytlnlffmlficjnaa
open Go.RowKit Go.Shelf
set_option linter.unusedVariables false
attribute [local go_sem] Oper.semAt_some

theorem copies_stops (n : Nat) (hn : 2 ≤ n) (E1 E2 a : Nat) (ad : Option Addr) (m c : Nat) (D : List Int) (hb : Bytes D) (ha : a < D.length) (hl : D.length ≤ 65536) (S : List Nat) (hS1 : E1 ∈ S) (hS2 : E2 ∈ S) (hSv : 0 < D.length → ∀ g, (Value.slice ad m c).ownBlock = some g → g ∈ S)
    (w : World) (hlt : ∀ z ∈ S, z < w.heap.size) (b1 : Blk w E1 28 [.slice ad m c]) (b2 : Blk w E2 3 [.int .i64 (a : Int)]) (hR : Rd8 w (.slice ad m c) D) :
    SeqStopsK Fence.wide n Try.prog 56 #[.pointer (some ⟨E1, 0, none⟩), .pointer (some ⟨E2, 0, none⟩)] (fun z : Nat × Nat => #[.int .i64 (z.1 : Int), .int .i64 (z.2 : Int)]) (fun A B => KeepS S A B ∧ A.heap.size ≤ B.heap.size) (fun ys => ys = cps D a (min 4096 a)) (fun pre => ∃ k, k ≤ min 4096 a ∧ pre = cps D a k) (min 4096 a) w :=
  fun l J Jx W hW hJ hJx hY h0 =>
    have hE : Ext w W := hW
    copies1_in n hn l E1 E2 a (.slice ad m c) D hb ha hl S hS1 hS2 hSv J Jx W hJ (fun z hz => Nat.lt_of_lt_of_le (hlt z hz) hE.size) hY (b1.ext hE) (b2.ext hE) (Rd.ext hR hE) h0
/-- A block whose cells hang on what has been yielded. -/
theorem blk_ownF {β : Type} (B : Nat) (t : TypeId) (f : β → List Value) : Own (fun (s : β) W => Blk W B t (f s)) := fun s X Y row hs hg hrow => by
  have hs' : X.heap[B]? = some (.cells (f s).toArray t (0, 0)) := hs
  show Y.heap[B]? = _
  rw [hg.block B (Array.getElem?_eq_some_iff.1 hs').1 (fun e' => by obtain ⟨o, ho, hc⟩ := hrow B e'.symm; rw [hs'] at ho; cases ho; cases hc)]
  exact hs'

set_option maxRecDepth 100000 in
set_option maxHeartbeats 4000000 in
theorem llongest_any (v : Value) (D : List Int) (a : Nat) (hb : Bytes D) (ha : a < D.length) (hl : D.length ≤ 65536) (w : World) (h : Rd8 w v D) :
    Calls Try.prog 37 #[v, .int .i64 (a : Int)] w fun x w' => x = .returned (tkv (loF D a)) ∧ Ext w w' := by
  obtain ⟨ad, cap, rfl, q1, q2, q3⟩ := Rd.shape h
  obtain ⟨bb, off, hab, hbb, -⟩ := Rd.cells h (by omega)
  subst hab
  have cA := Rd8.at h a ha
  have yA := getD_bd8 hb a
  obtain ⟨y, hy⟩ : ∃ y, D.getD a 0 = y := ⟨_, rfl⟩
  have hlo : loF D a = bsts y (cps D a (min 4096 a)) := by unfold loF; rw [hy]
  obtain ⟨⟨L0, D0, B0⟩, hN0⟩ : ∃ N, loF D a = N := ⟨_, rfl⟩
  rw [hN0] at hlo ⊢
  show Calls _ _ _ _ fun x w' => x = .returned (.agg #[.int .i64 L0, .int .i64 D0, .int .u8 B0]) ∧ Ext w w'
  clear hN0
  replace hlo := hidden hlo
  rw [hy] at cA yA
  obtain ⟨m, hm⟩ : ∃ m, D.length = m := ⟨_, rfl⟩
  have haI : (a : Int) < (m : Int) := by omega
  have hl2 : m ≤ 65536 := by omega
  have haI0 : (0 : Int) ≤ (a : Int) := by omega
  rw [hm] at q1 ⊢
  have hR : Hid (Rd8 w (.slice (some ⟨bb, off, none⟩) m cap) D) := hidden (by rw [← hm]; exact h)
  replace hm := hidden hm
  replace hb := hidden hb
  clear h hy
  refine (callsIn_wide (n := 6)).1 ?_
  refine callsIn_of_wp_marks Try.func37 rfl trivial ?_ rfl
  simp only [Try.ntmps37, List.size_toArray, List.length_cons, List.length_nil, Nat.reduceAdd, Nat.reduceSub, Array.replicate_succ, Array.replicate_zero, List.push_toArray, List.append_toArray, List.nil_append, List.cons_append]
  gi_wp2_with (refine ⟨trivial, ?_⟩; gi_at_call 46; refine (callsIn_wide.2 (copies_in _ _ _ _ _)).mono ?_; rintro e w2 ⟨rfl, rfl⟩)
  have bZ := (((Blk.new w [.int .i64 0, .int .i64 0, .int .u8 0] 27).alloc (.cells #[.int .i64 0, .int .i64 0, .int .u8 y] 27)).alloc (.cells #[.slice (some ⟨bb, off, none⟩) m cap] 28)).alloc (.cells #[.int .i64 (a : Int)] 3)
  have bB : Blk ((((w.alloc (.cells #[.int .i64 0, .int .i64 0, .int .u8 0] 27)).alloc (.cells #[.int .i64 0, .int .i64 0, .int .u8 y] 27)).alloc (.cells #[.slice (some ⟨bb, off, none⟩) m cap] 28)).alloc (.cells #[.int .i64 (a : Int)] 3)) (w.heap.size + 1) 27 (tkc (bsts y [])) := ((Blk.newAt (w.alloc (.cells #[.int .i64 0, .int .i64 0, .int .u8 0] 27)) [.int .i64 0, .int .i64 0, .int .u8 y] 27 (w.heap.size + 1) (by simp)).alloc (.cells #[.slice (some ⟨bb, off, none⟩) m cap] 28)).alloc (.cells #[.int .i64 (a : Int)] 3)
  have b1 : Blk ((((w.alloc (.cells #[.int .i64 0, .int .i64 0, .int .u8 0] 27)).alloc (.cells #[.int .i64 0, .int .i64 0, .int .u8 y] 27)).alloc (.cells #[.slice (some ⟨bb, off, none⟩) m cap] 28)).alloc (.cells #[.int .i64 (a : Int)] 3)) (w.heap.size + 2) 28 [.slice (some ⟨bb, off, none⟩) m cap] := (Blk.newAt ((w.alloc (.cells #[.int .i64 0, .int .i64 0, .int .u8 0] 27)).alloc (.cells #[.int .i64 0, .int .i64 0, .int .u8 y] 27)) [.slice (some ⟨bb, off, none⟩) m cap] 28 (w.heap.size + 2) (by simp)).alloc (.cells #[.int .i64 (a : Int)] 3)
  have b2 : Blk ((((w.alloc (.cells #[.int .i64 0, .int .i64 0, .int .u8 0] 27)).alloc (.cells #[.int .i64 0, .int .i64 0, .int .u8 y] 27)).alloc (.cells #[.slice (some ⟨bb, off, none⟩) m cap] 28)).alloc (.cells #[.int .i64 (a : Int)] 3)) (w.heap.size + 3) 3 [.int .i64 (a : Int)] := Blk.newAt (((w.alloc (.cells #[.int .i64 0, .int .i64 0, .int .u8 0] 27)).alloc (.cells #[.int .i64 0, .int .i64 0, .int .u8 y] 27)).alloc (.cells #[.slice (some ⟨bb, off, none⟩) m cap] 28)) [.int .i64 (a : Int)] 3 (w.heap.size + 3) (by simp)
  have hEW : Ext w ((((w.alloc (.cells #[.int .i64 0, .int .i64 0, .int .u8 0] 27)).alloc (.cells #[.int .i64 0, .int .i64 0, .int .u8 y] 27)).alloc (.cells #[.slice (some ⟨bb, off, none⟩) m cap] 28)).alloc (.cells #[.int .i64 (a : Int)] 3)) := ((((Ext.refl w).alloc _).alloc _).alloc _).alloc _
  obtain ⟨W2, hW2⟩ : ∃ W, ((((w.alloc (.cells #[.int .i64 0, .int .i64 0, .int .u8 0] 27)).alloc (.cells #[.int .i64 0, .int .i64 0, .int .u8 y] 27)).alloc (.cells #[.slice (some ⟨bb, off, none⟩) m cap] 28)).alloc (.cells #[.int .i64 (a : Int)] 3)) = W := ⟨_, rfl⟩
  have hsz2 : W2.heap.size = w.heap.size + 4 := by rw [← hW2]; simp
  rw [hW2] at bZ bB b1 b2 hEW
  rw [hW2]
  have hR2 := Rd.ext hR.out hEW
  clear hW2 cA
  have hlt : ∀ z ∈ [w.heap.size + 2, w.heap.size + 3, bb], z < W2.heap.size := by
    intro z hz
    simp at hz
    omega
  have hnd : ∀ z ∈ [w.heap.size + 2, w.heap.size + 3, bb], z ≠ w.heap.size + 1 := by
    intro z hz
    simp at hz
    omega
  have hsz2 := hidden hsz2
  refine wpIn_rangeFunc_ownG rfl (by omega) (gf := 56) (lb := #[.pointer (some ⟨w.heap.size + 2, 0, none⟩), .pointer (some ⟨w.heap.size + 3, 0, none⟩)]) rfl trivial (enters_of Try.func56 (by kernel_rfl) rfl)
    (copies_stops 5 (by omega) (w.heap.size + 2) (w.heap.size + 3) a (some ⟨bb, off, none⟩) m cap D hb.out (by rw [hm.out]; omega) (by rw [hm.out]; omega) [w.heap.size + 2, w.heap.size + 3, bb] (by simp) (by simp) (fun _ g hg => by simp [Value.ownBlock] at hg; simp [hg]) W2 hlt b1 b2 hR2) keepz_t (keepz_b hlt) (Below.refl _ _) (fun _ => rfl)
    (fun pre W => Blk W (w.heap.size + 1) 27 (tkc (bsts y pre)) ∧ Blk W w.heap.size 27 [.int .i64 0, .int .i64 0, .int .u8 0] ∧ Below w.heap.size w W)
    (fun _ _ _ => False)
    (OwnFrom.and (Own.from (blk_ownF _ _ (fun pre => tkc (bsts y pre))) _) (OwnFrom.and (Own.from (blk_own _ _ _) _) (ownFrom_below (Nat.le_refl _) (by rw [hsz2.out]; omega))))
    (fun _ _ _ _ _ hs _ _ => hs)
    ⟨bB, bZ, hEW⟩
    (fun z => { tmps := #[.slice (some ⟨bb, off, none⟩) m cap, .int .i64 (a : Int), undef, undef, .pointer (some ⟨w.heap.size, 0, none⟩), .pointer (some ⟨w.heap.size + 1, 0, none⟩), .int .i64 (z.1 : Int), .int .i64 (z.2 : Int), .slice (some ⟨bb, off, none⟩) m cap, .int .i64 (a : Int), .pointer (some ⟨bb, off + a, none⟩), .int .u8 y, .agg #[.int .i64 0, .int .i64 0, .int .u8 y], .slice (some ⟨bb, off, none⟩) m cap, .int .i64 (a : Int), .func (.func 56) #[] #[.pointer (some ⟨w.heap.size + 2, 0, none⟩), .pointer (some ⟨w.heap.size + 3, 0, none⟩)], .int .i64 (z.1 : Int), .int .i64 (z.2 : Int), undef, undef, undef, undef, undef, undef, undef, undef], defers := [] }) ?assign ?body ?done ?stop
  case assign =>
    intro l x W K hK
    gi_wp2
    exact hK
  case body =>
    rintro l pre z W ⟨hX, hZ, hB⟩ hlen
    have hsn := bsts_snoc y pre z
    obtain ⟨⟨L, Ds, Bt⟩, hN⟩ : ∃ N, bsts y pre = N := ⟨_, rfl⟩
    rw [hN] at hX hsn
    have c0 := hX.cell 0 _ rfl
    have f0 := hX.frozen 0
    have c1 := hX.cell 1 _ rfl
    have f1 := hX.frozen 1
    have c2 := hX.cell 2 _ rfl
    have f2 := hX.frozen 2
    clear hN
    simp only at c0 c1 c2
    have hsn := hidden hsn
    have hX := hidden hX
    by_cases hc : L < (z.2 : Int)
    · gi_wp2
      exact ⟨(((KeepsOthers.setCell _ _ _).trans (KeepsOthers.setCell _ _ _)).trans (KeepsOthers.setCell _ _ _)).from _, ⟨fun z hz => ((Below.heap_setCell _ _ _ _ (hnd z hz)).trans (Below.heap_setCell _ _ _ _ (hnd z hz))).trans (Below.heap_setCell _ _ _ _ (hnd z hz)), by simp⟩,
        by rw [hsn.out]; unfold bst; rw [if_pos (by simp only; omega)]; exact ((hX.out.set 0 _).set 1 _).set 2 _, ((hZ.set_other (by omega) _).set_other (by omega) _).set_other (by omega) _,
        ((hB.setCell (p := ⟨w.heap.size + 1, 0, none⟩) (show w.heap.size ≤ w.heap.size + 1 by omega) _).setCell (p := ⟨w.heap.size + 1, 1, none⟩) (show w.heap.size ≤ w.heap.size + 1 by omega) _).setCell (p := ⟨w.heap.size + 1, 2, none⟩) (show w.heap.size ≤ w.heap.size + 1 by omega) _⟩
    · gi_wp2
      exact ⟨(KeepsOthers.refl W).from _, ⟨KeepS.refl _ _, Nat.le_refl _⟩, by rw [hsn.out]; unfold bst; rw [if_neg (by simp only; omega)]; exact hX.out, hZ, hB⟩
  case done =>
    rintro E ys W hD rfl ⟨hX, hZ, hB⟩ hK
    rw [← hlo.out] at hX
    have c0 := hX.cell 0 _ rfl
    have c1 := hX.cell 1 _ rfl
    have c2 := hX.cell 2 _ rfl
    have e0 := hZ.cell 0 _ rfl
    have e1 := hZ.cell 1 _ rfl
    have e2 := hZ.cell 2 _ rfl
    have f0 := hZ.frozen 0
    have f1 := hZ.frozen 1
    have f2 := hZ.frozen 2
    gi_wp2
    have hE : E ≠ w.heap.size := by have := hsz2.out; omega
    have hK3 : (((W.setCell ⟨w.heap.size, 0, none⟩ (.int .i64 L0)).setCell ⟨w.heap.size, 1, none⟩ (.int .i64 D0)).setCell ⟨w.heap.size, 2, none⟩ (.int .u8 B0)).heap[E]? = some (.deferred (some [])) := by
      rw [Below.heap_setCell _ _ _ _ hE, Below.heap_setCell _ _ _ _ hE, Below.heap_setCell _ _ _ _ hE]; exact hK
    have hZ3 : Blk (((W.setCell ⟨w.heap.size, 0, none⟩ (.int .i64 L0)).setCell ⟨w.heap.size, 1, none⟩ (.int .i64 D0)).setCell ⟨w.heap.size, 2, none⟩ (.int .u8 B0)) w.heap.size 27 [.int .i64 L0, .int .i64 D0, .int .u8 B0] := ((hZ.set 0 _).set 1 _).set 2 _
    have hB3 : Below w.heap.size w (((W.setCell ⟨w.heap.size, 0, none⟩ (.int .i64 L0)).setCell ⟨w.heap.size, 1, none⟩ (.int .i64 D0)).setCell ⟨w.heap.size, 2, none⟩ (.int .u8 B0)) :=
      ((hB.setCell (p := ⟨w.heap.size, 0, none⟩) (Nat.le_refl _) _).setCell (p := ⟨w.heap.size, 1, none⟩) (Nat.le_refl _) _).setCell (p := ⟨w.heap.size, 2, none⟩) (Nat.le_refl _) _
    obtain ⟨W3, hW3⟩ : ∃ X, (((W.setCell ⟨w.heap.size, 0, none⟩ (.int .i64 L0)).setCell ⟨w.heap.size, 1, none⟩ (.int .i64 D0)).setCell ⟨w.heap.size, 2, none⟩ (.int .u8 B0)) = X := ⟨_, rfl⟩
    rw [hW3] at hK3 hZ3 hB3 ⊢
    refine ⟨by simp, .inl ⟨_, _, rfl, run_takeDeferred hK3, ?_⟩⟩
    have hk4 : KeepS [w.heap.size] W3 (W3.putObj E (.deferred none)) := fun x hx => World.putObj_heap_other (fun e => by simp at hx; omega)
    have hZ4 := hZ3.keep hk4 (by simp)
    have g0 := hZ4.cell 0 _ rfl
    have g1 := hZ4.cell 1 _ rfl
    have g2 := hZ4.cell 2 _ rfl
    refine ⟨.agg #[.int .i64 L0, .int .i64 D0, .int .u8 B0], ?_, rfl, ?_⟩
    · simp [results, Try.f37, go_sem, g0, g1, g2]
    · exact hB3.trans (belowK_b (n₀ := w.heap.size) (w := w) (Nat.le_refl _) W3 E _ (.deferred none) (by have := hsz2.out; omega) hK3 rfl rfl)
  case stop =>
    rintro D c pre W _ _ h _
    exact h.elim
end Go.Proofs.Ytlnlffmlficjnaa
