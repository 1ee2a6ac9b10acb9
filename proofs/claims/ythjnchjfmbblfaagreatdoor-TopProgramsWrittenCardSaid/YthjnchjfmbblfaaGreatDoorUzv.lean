/- listing.Same of equal programs. -/
import Derived.Test.YthjnchjfmbblfaaGreatDoorUzu
namespace Go.Proofs.YthjnchjfmbblfaaGreatDoor
open Go.RowKit Go.ChangeMaps Go.MapKept
set_option linter.unusedVariables false
set_option linter.unusedSimpArgs false
attribute [local go_sem ↓] Go.wp_at_zero Go.wp_at_succ

set_option maxHeartbeats 4000000 in
set_option maxRecDepth 100000 in
theorem equalA (v1 v2 : Value) (A : List (Bool × Int)) (hA : A.length ≤ 1000000) (w : World) (r1 : Rd w 2 v1 A.length (A.flatMap cA)) (r2 : Rd w 2 v2 A.length (A.flatMap cA)) :
    Calls Tryz.prog 19 #[v1, v2] w fun e w' => e = .returned (.bool true) ∧ Ext w w' := by
  obtain ⟨a1, c1, rfl, -⟩ := Rd.shape r1
  obtain ⟨a2, c2, rfl, -⟩ := Rd.shape r2
  obtain ⟨n, hn⟩ : ∃ n, A.length = n := ⟨_, rfl⟩
  rw [hn] at r1 r2 hA ⊢
  have hat : Hid (∀ j, j < n → ∃ x : Bool × Int, A[j]? = some x) := hidden (fun j hj => ⟨_, List.getElem?_eq_getElem (by rw [hn]; exact hj)⟩)
  replace r1 := hidden r1
  replace r2 := hidden r2
  replace hn := hidden hn
  go_enter Tryz.func19, Tryz.ntmps19
  go_wp2_with fail
  go_loopw [13] (fun i wr => ∃ k : Nat, k ≤ n ∧ i = .int .i64 (k : Int) ∧ Hid (Ext w wr)) (fun i _ => n - (intOf i).toNat)
  case atStart => exact ⟨0, by omega, rfl, Ext.refl _⟩
  case round =>
    obtain ⟨k, hk, rfl, hX⟩ := hrel
    by_cases hlt : k < n
    · obtain ⟨b1, o1, rfl, -, -⟩ := r1.out.cells (by omega)
      obtain ⟨b2, o2, rfl, -, -⟩ := r2.out.cells (by omega)
      obtain ⟨x, hx⟩ := hat.out k hlt
      obtain ⟨y0, y1⟩ := rd2_at cA_len r1.out k x hx _ _ rfl
      obtain ⟨z0, z1⟩ := rd2_at cA_len r2.out k x hx _ _ rfl
      obtain ⟨p, q⟩ := x
      simp only at y0 y1 z0 z1
      have u0 := hX.out.cell y0
      have u1 := hX.out.cell y1
      have t0 := hX.out.cell z0
      have t1 := hX.out.cell z1
      have hlt2 : (k : Int) < (n : Int) := by omega
      have v2 : IntKind.i64.wrap ((k : Int) + 1) = (k : Int) + 1 := IntWalk.i64_in _ (by omega)
      replace hx := hidden hx
      clear y0 y1 z0 z1
      go_wp2_with fail
      go_quiet (fail)
      have hX2 : Hid (Ext w (wr.drewN nq)) := hidden (hX.out.drewN _)
      go_wp2_with fail
      go_roundw
      case rel => exact ⟨k + 1, by omega, by rfl, hX2⟩
      case measure => show n - (k + 1) < n - k; omega
    · obtain rfl : k = n := by omega
      have hge : ¬ (k : Int) < (k : Int) := by omega
      go_wp2_with fail
      go_ret
      exact ⟨rfl, hX.out⟩
set_option maxHeartbeats 4000000 in
set_option maxRecDepth 100000 in
theorem equalC (v1 v2 : Value) (A : List (Int × Int)) (hA : A.length ≤ 1000000) (w : World) (r1 : Rd w 2 v1 A.length (A.flatMap cI)) (r2 : Rd w 2 v2 A.length (A.flatMap cI)) :
    Calls Tryz.prog 20 #[v1, v2] w fun e w' => e = .returned (.bool true) ∧ Ext w w' := by
  obtain ⟨a1, c1, rfl, -⟩ := Rd.shape r1
  obtain ⟨a2, c2, rfl, -⟩ := Rd.shape r2
  obtain ⟨n, hn⟩ : ∃ n, A.length = n := ⟨_, rfl⟩
  rw [hn] at r1 r2 hA ⊢
  have hat : Hid (∀ j, j < n → ∃ x : Int × Int, A[j]? = some x) := hidden (fun j hj => ⟨_, List.getElem?_eq_getElem (by rw [hn]; exact hj)⟩)
  replace r1 := hidden r1
  replace r2 := hidden r2
  replace hn := hidden hn
  go_enter Tryz.func20, Tryz.ntmps20
  go_wp2_with fail
  go_loopw [13] (fun i wr => ∃ k : Nat, k ≤ n ∧ i = .int .i64 (k : Int) ∧ Hid (Ext w wr)) (fun i _ => n - (intOf i).toNat)
  case atStart => exact ⟨0, by omega, rfl, Ext.refl _⟩
  case round =>
    obtain ⟨k, hk, rfl, hX⟩ := hrel
    by_cases hlt : k < n
    · obtain ⟨b1, o1, rfl, -, -⟩ := r1.out.cells (by omega)
      obtain ⟨b2, o2, rfl, -, -⟩ := r2.out.cells (by omega)
      obtain ⟨x, hx⟩ := hat.out k hlt
      obtain ⟨y0, y1⟩ := rd2_at cI_len r1.out k x hx _ _ rfl
      obtain ⟨z0, z1⟩ := rd2_at cI_len r2.out k x hx _ _ rfl
      obtain ⟨p, q⟩ := x
      simp only at y0 y1 z0 z1
      have u0 := hX.out.cell y0
      have u1 := hX.out.cell y1
      have t0 := hX.out.cell z0
      have t1 := hX.out.cell z1
      have hlt2 : (k : Int) < (n : Int) := by omega
      have v2 : IntKind.i64.wrap ((k : Int) + 1) = (k : Int) + 1 := IntWalk.i64_in _ (by omega)
      replace hx := hidden hx
      clear y0 y1 z0 z1
      go_wp2_with fail
      go_quiet (fail)
      have hX2 : Hid (Ext w (wr.drewN nq)) := hidden (hX.out.drewN _)
      go_wp2_with fail
      go_roundw
      case rel => exact ⟨k + 1, by omega, by rfl, hX2⟩
      case measure => show n - (k + 1) < n - k; omega
    · obtain rfl : k = n := by omega
      have hge : ¬ (k : Int) < (k : Int) := by omega
      go_wp2_with fail
      go_ret
      exact ⟨rfl, hX.out⟩
set_option maxHeartbeats 4000000 in
set_option maxRecDepth 100000 in
theorem same_any (vA vC vA' vC' : Value) (A : List (Bool × Int)) (L : Int) (C : List (Int × Int)) (hA : A.length ≤ 1000000) (hC : C.length ≤ 1000000) (w : World) (rA : Arr w vA A) (rC : Cod w vC C) (rA' : Arr w vA' A) (rC' : Cod w vC' C) :
    Calls Tryz.prog 9 #[.agg #[vA, .int .i64 L, vC], .agg #[vA', .int .i64 L, vC']] w fun e w' => e = .returned (.bool true) ∧ Ext w w' := by
  have hEA := fun W (hW : Ext w W) => equalA vA vA' A hA W (Rd.ext rA hW) (Rd.ext rA' hW)
  have hEC := fun W (hW : Ext w W) => equalC vC vC' C hC W (Rd.ext rC hW) (Rd.ext rC' hW)
  obtain ⟨aA, cA1, rfl, -⟩ := Rd.shape (show Rd w 2 vA A.length (A.flatMap cA) from rA)
  obtain ⟨aC, cC1, rfl, -⟩ := Rd.shape (show Rd w 2 vC C.length (C.flatMap cI) from rC)
  obtain ⟨bA, dA1, rfl, -⟩ := Rd.shape (show Rd w 2 vA' A.length (A.flatMap cA) from rA')
  obtain ⟨bC, dC1, rfl, -⟩ := Rd.shape (show Rd w 2 vC' C.length (C.flatMap cI) from rC')
  obtain ⟨nA, hnA⟩ : ∃ n, A.length = n := ⟨_, rfl⟩
  obtain ⟨nC, hnC⟩ : ∃ n, C.length = n := ⟨_, rfl⟩
  simp only [hnA, hnC] at hEA hEC ⊢
  have X1 : Ext w (w.alloc (.cells #[.slice aA nA cA1, .int .i64 L, .slice aC nC cC1] 25)) := (Ext.refl w).alloc _
  have HB1 := Blk.new w [.slice aA nA cA1, .int .i64 L, .slice aC nC cC1] 25
  obtain ⟨w1, hw1⟩ : ∃ w1, w.alloc (.cells #[.slice aA nA cA1, .int .i64 L, .slice aC nC cC1] 25) = w1 := ⟨_, rfl⟩
  obtain ⟨q, hq⟩ : ∃ q, w.heap.size = q := ⟨_, rfl⟩
  rw [hq] at HB1
  rw [hw1] at HB1 X1
  have hs1 : w1.heap.size = q + 1 := by rw [← hw1, ← hq]; simp
  have X2 : Ext w1 (w1.alloc (.cells #[.slice bA nA dA1, .int .i64 L, .slice bC nC dC1] 25)) := (Ext.refl w1).alloc _
  have HB2 := Blk.new w1 [.slice bA nA dA1, .int .i64 L, .slice bC nC dC1] 25
  obtain ⟨w2, hw2⟩ : ∃ w2, w1.alloc (.cells #[.slice bA nA dA1, .int .i64 L, .slice bC nC dC1] 25) = w2 := ⟨_, rfl⟩
  rw [hs1] at HB2
  rw [hw2] at HB2 X2
  have HB3 := HB1.ext X2
  have p0 := HB3.cell 0 _ rfl
  have p1 := HB3.cell 1 _ rfl
  have p2 := HB3.cell 2 _ rfl
  have u0 := HB2.cell 0 _ rfl
  have u1 := HB2.cell 1 _ rfl
  have u2 := HB2.cell 2 _ rfl
  have hX := hidden (X1.trans X2)
  have h1 := hidden (hEA w2 (X1.trans X2))
  have HB3' := hidden HB3
  have HB2' := hidden HB2
  replace hEC := hidden hEC
  clear rA rC rA' rC' X1 X2 HB1 HB2 HB3 hnA hnC hEA hA hC
  go_enter Tryz.func9, Tryz.ntmps9
  go_wp2_with fail
  refine h1.out.mono ?_
  rintro e w3 ⟨rfl, X3⟩
  have Y3 := hidden (hX.out.trans X3)
  have HB3 := HB3'.out.ext X3
  have HB2 := HB2'.out.ext X3
  have p0' := HB3.cell 0 _ rfl
  have p1' := HB3.cell 1 _ rfl
  have p2' := HB3.cell 2 _ rfl
  have u0' := HB2.cell 0 _ rfl
  have u1' := HB2.cell 1 _ rfl
  have u2' := HB2.cell 2 _ rfl
  have h2 := hidden (hEC.out w3 (hX.out.trans X3))
  clear p0 p1 p2 u0 u1 u2 X3 HB3 HB2
  go_wp2_with fail
  refine h2.out.mono ?_
  rintro e w4 ⟨rfl, X4⟩
  go_wp2_with fail
  go_ret
  exact ⟨rfl, Y3.out.trans X4⟩
end Go.Proofs.YthjnchjfmbblfaaGreatDoor
