/- Layer 18: Flatten of a tree that is right. -/
import Derived.Test.YtcnbljohhajkhaaWi
import Derived.Test.YtcnbljohhajkhaaVa
namespace Go.Proofs.Ytcnbljohhajkhaa
open Go.RowKit
set_option linter.unusedVariables false
set_option linter.unusedSimpArgs false
attribute [local go_sem ↓] Go.wp_at_zero Go.wp_at_succ

theorem wlist_all (C : List (Int × Int)) (hl : C.length ≤ 1024) (t : T) : WlOK C t := by
  have main : ∀ n t, nodes t ≤ n → WlOK C t := by
    intro n
    induction n with
    | zero => intro t h; exact wlist_any C hl t (fun t' h' => by omega)
    | succ n ih => intro t h; exact wlist_any C hl t (fun t' h' => ih t' (by omega))
  exact main _ t (Nat.le_refl _)
theorem SubAt.lt {w : World} {Q : Nat → Prop} {v : Value} {t : T} (h : SubAt w Q v t) : SubAt w (fun k => k < w.heap.size) v t := by
  obtain ⟨cs, h1, h2, h3⟩ := h
  exact ⟨cs, h1, fun k hn e => h1.blk_lt hn e, h3.ext (Ext.refl w) (fun k hk _ => hk)⟩
def FlatP (w : World) (C : List (Int × Int)) (t : T) (x : Ending) (w' : World) : Prop := ∃ v, x = .returned (.tuple #[v, .int .i64 0]) ∧ OwnC w' w.heap.size v (flF C t) ∧ Ext w w'

set_option maxRecDepth 100000 in
theorem flatten_any (vt v : Value) (C : List (Int × Int)) (t : T) (w : World) (Q : Nat → Prop) (h : Code18 w v C) (ht : SubAt w Q vt t) (hl : C.length ≤ 1024) (hok : okF C 0 t) (hfl : (flF C t).length ≤ 1024) :
    Calls Try.prog 19 #[vt, v] w (FlatP w C t) := by
  obtain ⟨ad, cap, rfl, hcap, -⟩ := Rd.shape h
  obtain ⟨n, hn⟩ : ∃ n, C.length = n := ⟨_, rfl⟩
  have hoff : ∀ k, 0 < n → (Value.slice ad n cap).ownBlock = some k → k < w.heap.size := fun k h0 hk => Rd.blk_lt h (by omega) (by rw [hn]; exact hk)
  rw [hn] at h hl hcap ⊢
  have ht1 := ht.lt
  obtain ⟨s, hs⟩ : ∃ s, w.heap.size = s := ⟨_, rfl⟩
  rw [hs] at ht1 hoff
  have X3 : Ext w (((w.alloc (.cells #[.int .i64 0] 26)).alloc (.cells #[.int .i64 0] 3)).alloc (.cells #[.slice ad n cap, .slice none 0 0] 68)) := (((Ext.refl w).alloc _).alloc _).alloc _
  have P0 : Blk (((w.alloc (.cells #[.int .i64 0] 26)).alloc (.cells #[.int .i64 0] 3)).alloc (.cells #[.slice ad n cap, .slice none 0 0] 68)) s 26 [.int .i64 0] := by rw [← hs]; exact ((Blk.new w _ _).alloc _).alloc _
  have P2 : Blk (((w.alloc (.cells #[.int .i64 0] 26)).alloc (.cells #[.int .i64 0] 3)).alloc (.cells #[.slice ad n cap, .slice none 0 0] 68)) (s + 1 + 1) 68 [.slice ad n cap, .slice none 0 0] := by
    have := Blk.new ((w.alloc (.cells #[.int .i64 0] 26)).alloc (.cells #[.int .i64 0] 3)) [.slice ad n cap, .slice none 0 0] 68
    simpa [hs] using this
  obtain ⟨W, hW⟩ : ∃ W, (((w.alloc (.cells #[.int .i64 0] 26)).alloc (.cells #[.int .i64 0] 3)).alloc (.cells #[.slice ad n cap, .slice none 0 0] 68)) = W := ⟨_, rfl⟩
  rw [hW] at X3 P0 P2
  have hsz : W.heap.size = s + 3 := by rw [← hW]; simp [hs]
  have hcall := wlist_all C (by omega) t W s (s + 1 + 1) (.slice ad n cap) (.slice none 0 0) vt [] 0 P2 (h.ext X3) (by rw [hn]; exact fun h0 k hk => hoff k h0 hk) ⟨by simp, Or.inl ⟨rfl, rfl⟩⟩ (by simp [Value.ownBlock]) (by omega) (ht1.chg (Chg.of_ext [] X3) (by simp) (fun _ _ h => h)) hok (by omega) (by simp; omega)
  have hd1 := hidden demand_true
  have hq1 : decide ((n : Int) ≤ 1024) = true := by simp; omega
  have hn2 : Hid (C.length = n) := hn
  replace hcall := hidden hcall
  replace hW := hidden hW
  replace X3 := hidden X3
  replace P0 := hidden P0
  clear P2 ht ht1 hok h hoff hn hcap
  go_enter_defers Try.func19, Try.ntmps19
  go_wp2_with fail
  refine (hd1.out _ _ _).mono ?_
  rintro e w1 ⟨rfl, hw1⟩
  rw [hw1]
  clear hw1
  go_wp2_with fail
  rw [hW.out]
  refine hcall.out.mono ?_
  clear hcall
  rintro e W1 ⟨rfl, v1, hS⟩
  rw [List.nil_append] at hS
  have ho := hS.out
  have hP0 := P0.out.chg hS.chg (by simp [Value.ownBlock]; omega)
  have w1 := hS.blk.cell 1 _ rfl
  obtain ⟨va, vcp, rfl, -⟩ := own_shape (show W1.ownsRow _ _ _ _ _ _ from ho)
  obtain ⟨m, hm⟩ : ∃ m, (flF C t).length = m := ⟨_, rfl⟩
  rw [hm] at w1 hfl
  have hq2 : decide ((m : Int) ≤ 1024) = true := by simp; omega
  have p0 := hP0.cell 0 _ rfl
  have f0 := hP0.frozen 0
  replace hS := hidden hS
  replace hP0 := hidden hP0
  replace ho := hidden ho
  replace hm := hidden hm
  have hss : s + 1 + 1 ≠ s := by omega
  go_wp2_with fail
  refine (hd1.out _ _ _).mono ?_
  rintro e w1 ⟨rfl, hw1⟩
  rw [hw1]
  clear hw1
  go_wp2_with fail
  have b0 := hP0.out.set 0 (.int .i64 0)
  have hcw : Chg [s] W1 (W1.setCell ⟨s, 0, none⟩ (.int .i64 0)) := (Chg.refl _ W1).setCell (Or.inl (by simp)) _
  obtain ⟨w4, hw4⟩ : ∃ w4, W1.setCell ⟨s, 0, none⟩ (.int .i64 0) = w4 := ⟨_, rfl⟩
  rw [hw4] at b0 hcw ⊢
  refine leaves_cons (f := 27) (args := #[.pointer (some ⟨s + 1, 0, none⟩), .pointer (some ⟨s, 0, none⟩)]) (by simp) (by simp [go_sem]) ?_
  refine (rescue_idle ⟨s + 1, 0, none⟩ ⟨s, 0, none⟩ w4).mono ?_
  rintro e2 u w5 ⟨rfl, rfl, rfl⟩
  have k0 := b0.cell 0 _ rfl
  have hfin : FlatP w C t (.returned (.tuple #[.slice va m vcp, .int .i64 0])) w5 := by
    have ho2 := ho.out
    rw [hm.out] at ho2
    refine ⟨_, rfl, ?_, ?_⟩
    · have hne : ∀ k, (Value.slice va m vcp).ownBlock = some k → k ≠ s := fun k hk => by
        rcases (hS.out.ne k (by rw [hm.out]; exact hk)).2 with h | h
        · simp [Value.ownBlock] at h
        · omega
      exact own_mono (own_chg ho2 hcw (fun x hx e => by simp at hx; exact hne x e hx)) (by omega)
    · exact (((Chg.of_ext [] X3.out).trans hS.out.chg (fun x hx => by simp [Value.ownBlock] at hx; rw [hs]; omega)).trans hcw (fun x hx => by simp at hx; rw [hs]; omega)).ext
  simp [Leaves, settle, results, Try.f19, go_sem, k0]
  exact hfin
end Go.Proofs.Ytcnbljohhajkhaa
