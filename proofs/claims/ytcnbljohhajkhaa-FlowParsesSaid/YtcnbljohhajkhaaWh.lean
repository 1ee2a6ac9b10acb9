/- Layer 18: a block of a tree is checked against the code. -/
import Derived.Test.YtcnbljohhajkhaaVe
import Derived.Deep.QuietTactic
import Derived.BigQuiet
import Derived.StillTailTactics
namespace Go.Proofs.Ytcnbljohhajkhaa
open Go.RowKit
set_option linter.unusedVariables false
set_option linter.unusedSimpArgs false
attribute [local go_sem ↓] Go.wp_at_zero Go.wp_at_succ

/-- A block of itself. -/
def okB (C : List (Int × Int)) (d : Nat) (op : Int) (f t nb no : Nat) : Prop :=
  (f < t ∧ t ≤ C.length) ∧ (op = -1 ∧ nb = 0 ∧ no = 0 ∨ (op = 27 ∨ op = 29 ∧ no = 0) ∧ d < 8 ∧ opAt C f = op ∧ opAt C (t - 1) = 31)

set_option maxHeartbeats 2000000 in
set_option maxRecDepth 100000 in
theorem check_any (C : List (Int × Int)) (w : World) (wr : Nat) (vc vo : Value) (op : Int) (f t nb no cb co d : Nat) (ab ao : Option Addr) (hB : Blk w wr 68 [vc, vo]) (hC : Code18 w vc C) (hl : C.length ≤ 1024) (hk : okB C d op f t nb no) (hnb : nb ≤ 100000) (hno : no ≤ 100000) (hd : d ≤ 8) :
    Calls Try.prog 38 #[.pointer (some ⟨wr, 0, none⟩), .agg #[.int .i64 op, .int .i64 (f : Int), .int .i64 (t : Int), .slice ab nb cb, .slice ao no co], .int .i64 (d : Int)] w fun x w' => x = .returned (.tuple #[]) ∧ Ext w w' := by
  obtain ⟨n, hn⟩ : ∃ n, C.length = n := ⟨_, rfl⟩
  obtain ⟨ac, cc, rfl, hcc, -⟩ := Rd.shape hC
  obtain ⟨⟨hft, htn⟩, hk⟩ := hk
  rw [hn] at hl hB hC htn
  obtain ⟨pb, po, rfl, -, -⟩ := Rd.cells (cs := C.flatMap icell) (w := w) (sz := 2) (by have := hC; unfold Code18 at this; rw [hn] at this; exact this) (show 0 < n by omega)
  obtain ⟨hx0, -⟩ := code_at hC f (by omega)
  obtain ⟨hx1, -⟩ := code_at hC (t - 1) (by omega)
  have X1 := (Ext.refl w).alloc (.cells #[.int .i64 op, .int .i64 (f : Int), .int .i64 (t : Int), .slice ab nb cb, .slice ao no co] 47)
  have N0 := Blk.new w [.int .i64 op, .int .i64 (f : Int), .int .i64 (t : Int), .slice ab nb cb, .slice ao no co] 47
  have hB1 := hB.ext X1
  have hy0 := X1.cell hx0
  have hy1 := X1.cell hx1
  obtain ⟨s, hs⟩ : ∃ s, w.heap.size = s := ⟨_, rfl⟩
  rw [hs] at N0
  obtain ⟨W, hW⟩ : ∃ W, w.alloc (.cells #[.int .i64 op, .int .i64 (f : Int), .int .i64 (t : Int), .slice ab nb cb, .slice ao no co] 47) = W := ⟨_, rfl⟩
  rw [hW] at X1 N0 hB1 hy0 hy1
  have c0 := N0.cell 0 _ rfl
  have c1 := N0.cell 1 _ rfl
  have c2 := N0.cell 2 _ rfl
  have c3 := N0.cell 3 _ rfl
  have c4 := N0.cell 4 _ rfl
  have w0 := hB1.cell 0 _ rfl
  have hd1 := hidden demand_true
  have hop := hidden opens_any
  replace hs := hidden hs
  replace hn := hidden hn
  have X1 := hidden X1
  replace hW := hidden hW
  clear hB hC hx0 hx1 N0 hB1
  go_enter Try.func38, Try.ntmps38
  have q1 : decide ((f : Int) < (t : Int)) = true := by simp; omega
  have q2 : decide ((t : Int) ≤ (n : Int)) = true := by simp; omega
  have q3 : decide ((0 : Int) ≤ (f : Int)) = true := by simp
  have q4 : (f : Int) < (n : Int) := by omega
  have q5 : (0 : Int) ≤ (t : Int) - 1 := by omega
  have q6 : (t : Int) - 1 < (n : Int) := by omega
  have q7 : IntKind.i64.wrap ((t : Int) - 1) = (t : Int) - 1 := IntWalk.i64_in _ (by omega)
  have q8 : IntKind.i64.wrap ((nb : Int) + (no : Int)) = (nb : Int) + (no : Int) := IntWalk.i64_in _ (by omega)
  have q9 : ((t : Int) - 1).toNat = t - 1 := by omega
  rcases hk with ⟨rfl, rfl, rfl⟩ | ⟨h1, hd8, ho1, ho2⟩
  · 
    go_upto_region 1 with fail
    rw [hW.out, hs.out]
    go_still (by kernel_rfl)
    go_upto_region 6 with (first | (go_at_call 32; refine (hd1.out _ _ _).mono ?_; rintro e w9 ⟨rfl, hw9⟩; rw [hw9]; clear hw9) | (go_at_call 40; refine (hop.out _ _).mono ?_; rintro e w9 ⟨rfl, hw9⟩; rw [hw9]; clear hw9))
    replace c0 : W.drew.cell? ⟨s, 0, none⟩ = some _ := c0
    replace c1 : W.drew.cell? ⟨s, 1, none⟩ = some _ := c1
    replace c2 : W.drew.cell? ⟨s, 2, none⟩ = some _ := c2
    replace c3 : W.drew.cell? ⟨s, 3, none⟩ = some _ := c3
    replace c4 : W.drew.cell? ⟨s, 4, none⟩ = some _ := c4
    replace w0 : W.drew.cell? ⟨wr, 0, none⟩ = some _ := w0
    replace hy0 : W.drew.cell? _ = some _ := hy0
    replace hy1 : W.drew.cell? _ = some _ := hy1
    have X2 := hidden (X1.out.drew)
    clear X1
    generalize W.drew = W2 at *
    go_still_tail 20, (by kernel_rfl)
    change wpList _ _ _ _ _ W2.drew
    go_upto_region 7 with (first | (go_at_call 32; refine (hd1.out _ _ _).mono ?_; rintro e w9 ⟨rfl, hw9⟩; rw [hw9]; clear hw9) | (go_at_call 40; refine (hop.out _ _).mono ?_; rintro e w9 ⟨rfl, hw9⟩; rw [hw9]; clear hw9))
    replace c0 : W2.drew.cell? ⟨s, 0, none⟩ = some _ := c0
    replace c1 : W2.drew.cell? ⟨s, 1, none⟩ = some _ := c1
    replace c2 : W2.drew.cell? ⟨s, 2, none⟩ = some _ := c2
    replace c3 : W2.drew.cell? ⟨s, 3, none⟩ = some _ := c3
    replace c4 : W2.drew.cell? ⟨s, 4, none⟩ = some _ := c4
    replace w0 : W2.drew.cell? ⟨wr, 0, none⟩ = some _ := w0
    replace hy0 : W2.drew.cell? _ = some _ := hy0
    replace hy1 : W2.drew.cell? _ = some _ := hy1
    have X3 := hidden (X2.out.drew)
    clear X2
    generalize W2.drew = W3 at *
    go_quiet (first | (go_at_call 32; exact Calls.quiet_of_same (hd1.out _ _ _)))
    go_wp2_with (first | (go_at_call 32; refine (hd1.out _ _ _).mono ?_; rintro e w9 ⟨rfl, hw9⟩; rw [hw9]; clear hw9) | (go_at_call 40; refine (hop.out _ _).mono ?_; rintro e w9 ⟨rfl, hw9⟩; rw [hw9]; clear hw9))
    go_end0
    exact ⟨rfl, X3.out.drewN _⟩
  · have r1 : decide ((d : Int) < 8) = true := by simp; omega
    rw [ho1] at hy0
    rw [ho2] at hy1
    rcases h1 with rfl | ⟨rfl, rfl⟩
    · 
      go_upto_region 1 with fail
      rw [hW.out, hs.out]
      go_still (by kernel_rfl)
      go_upto_region 6 with (first | (go_at_call 32; refine (hd1.out _ _ _).mono ?_; rintro e w9 ⟨rfl, hw9⟩; rw [hw9]; clear hw9) | (go_at_call 40; refine (hop.out _ _).mono ?_; rintro e w9 ⟨rfl, hw9⟩; rw [hw9]; clear hw9))
      replace c0 : W.drew.cell? ⟨s, 0, none⟩ = some _ := c0
      replace c1 : W.drew.cell? ⟨s, 1, none⟩ = some _ := c1
      replace c2 : W.drew.cell? ⟨s, 2, none⟩ = some _ := c2
      replace c3 : W.drew.cell? ⟨s, 3, none⟩ = some _ := c3
      replace c4 : W.drew.cell? ⟨s, 4, none⟩ = some _ := c4
      replace w0 : W.drew.cell? ⟨wr, 0, none⟩ = some _ := w0
      replace hy0 : W.drew.cell? _ = some _ := hy0
      replace hy1 : W.drew.cell? _ = some _ := hy1
      have X2 := hidden (X1.out.drew)
      clear X1
      generalize W.drew = W2 at *
      go_still_tail 20, (by kernel_rfl)
      change wpList _ _ _ _ _ W2.drew
      go_upto_region 7 with (first | (go_at_call 32; refine (hd1.out _ _ _).mono ?_; rintro e w9 ⟨rfl, hw9⟩; rw [hw9]; clear hw9) | (go_at_call 40; refine (hop.out _ _).mono ?_; rintro e w9 ⟨rfl, hw9⟩; rw [hw9]; clear hw9))
      replace c0 : W2.drew.cell? ⟨s, 0, none⟩ = some _ := c0
      replace c1 : W2.drew.cell? ⟨s, 1, none⟩ = some _ := c1
      replace c2 : W2.drew.cell? ⟨s, 2, none⟩ = some _ := c2
      replace c3 : W2.drew.cell? ⟨s, 3, none⟩ = some _ := c3
      replace c4 : W2.drew.cell? ⟨s, 4, none⟩ = some _ := c4
      replace w0 : W2.drew.cell? ⟨wr, 0, none⟩ = some _ := w0
      replace hy0 : W2.drew.cell? _ = some _ := hy0
      replace hy1 : W2.drew.cell? _ = some _ := hy1
      have X3 := hidden (X2.out.drew)
      clear X2
      generalize W2.drew = W3 at *
      go_quiet (first | (go_at_call 32; exact Calls.quiet_of_same (hd1.out _ _ _)))
      go_wp2_with (first | (go_at_call 32; refine (hd1.out _ _ _).mono ?_; rintro e w9 ⟨rfl, hw9⟩; rw [hw9]; clear hw9) | (go_at_call 40; refine (hop.out _ _).mono ?_; rintro e w9 ⟨rfl, hw9⟩; rw [hw9]; clear hw9))
      go_end0
      exact ⟨rfl, X3.out.drewN _⟩
    · 
      go_upto_region 1 with fail
      rw [hW.out, hs.out]
      go_still (by kernel_rfl)
      go_upto_region 6 with (first | (go_at_call 32; refine (hd1.out _ _ _).mono ?_; rintro e w9 ⟨rfl, hw9⟩; rw [hw9]; clear hw9) | (go_at_call 40; refine (hop.out _ _).mono ?_; rintro e w9 ⟨rfl, hw9⟩; rw [hw9]; clear hw9))
      replace c0 : W.drew.cell? ⟨s, 0, none⟩ = some _ := c0
      replace c1 : W.drew.cell? ⟨s, 1, none⟩ = some _ := c1
      replace c2 : W.drew.cell? ⟨s, 2, none⟩ = some _ := c2
      replace c3 : W.drew.cell? ⟨s, 3, none⟩ = some _ := c3
      replace c4 : W.drew.cell? ⟨s, 4, none⟩ = some _ := c4
      replace w0 : W.drew.cell? ⟨wr, 0, none⟩ = some _ := w0
      replace hy0 : W.drew.cell? _ = some _ := hy0
      replace hy1 : W.drew.cell? _ = some _ := hy1
      have X2 := hidden (X1.out.drew)
      clear X1
      generalize W.drew = W2 at *
      go_still_tail 20, (by kernel_rfl)
      change wpList _ _ _ _ _ W2.drew
      go_upto_region 7 with (first | (go_at_call 32; refine (hd1.out _ _ _).mono ?_; rintro e w9 ⟨rfl, hw9⟩; rw [hw9]; clear hw9) | (go_at_call 40; refine (hop.out _ _).mono ?_; rintro e w9 ⟨rfl, hw9⟩; rw [hw9]; clear hw9))
      replace c0 : W2.drew.cell? ⟨s, 0, none⟩ = some _ := c0
      replace c1 : W2.drew.cell? ⟨s, 1, none⟩ = some _ := c1
      replace c2 : W2.drew.cell? ⟨s, 2, none⟩ = some _ := c2
      replace c3 : W2.drew.cell? ⟨s, 3, none⟩ = some _ := c3
      replace c4 : W2.drew.cell? ⟨s, 4, none⟩ = some _ := c4
      replace w0 : W2.drew.cell? ⟨wr, 0, none⟩ = some _ := w0
      replace hy0 : W2.drew.cell? _ = some _ := hy0
      replace hy1 : W2.drew.cell? _ = some _ := hy1
      have X3 := hidden (X2.out.drew)
      clear X2
      generalize W2.drew = W3 at *
      go_quiet (first | (go_at_call 32; exact Calls.quiet_of_same (hd1.out _ _ _)))
      go_wp2_with (first | (go_at_call 32; refine (hd1.out _ _ _).mono ?_; rintro e w9 ⟨rfl, hw9⟩; rw [hw9]; clear hw9) | (go_at_call 40; refine (hop.out _ _).mono ?_; rintro e w9 ⟨rfl, hw9⟩; rw [hw9]; clear hw9))
      go_end0
      exact ⟨rfl, X3.out.drewN _⟩
end Go.Proofs.Ytcnbljohhajkhaa
