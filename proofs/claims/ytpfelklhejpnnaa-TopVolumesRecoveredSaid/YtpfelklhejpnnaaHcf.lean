/- TopVolumesRecovered: the walk in the form that wrap6.py calls; a struct of four one-cell fields, out of its cells. -/
import Derived.Test.YtpfelklhejpnnaaHce
import Derived.Test.YtpfelklhejpnnaaQ
namespace Go.Proofs.Ytpfelklhejpnnaa
open Go.RowKit Go.ChangeShapes Go.WideShapes Go.Deep
set_option linter.unusedVariables false
section
variable {P : Program} {H : Type} {enc : TypeId × Value → H} {W : World} {base : Nat} {spare : Nat → Bool} {held : Bool} {fuel : Nat} {cs : List Value} {x : DataW H × List MemPlace} {t : TypeId}
theorem read_struct4 {f0 f1 f2 f3 : Field} (hs : P.underlying t = some (.struct #[f0, f1, f2, f3])) (hone : oneCellFields P #[f0, f1, f2, f3] = true) (hC : P.cellsOf t = 4) (h : DataW.trod enc P W base spare held fuel t cs = some x) :
    ∃ c0 c1 c2 c3 y0 y1 y2 y3 m, cs = [c0, c1, c2, c3] ∧ DataW.trod enc P W base spare held m f0.type [c0] = some y0 ∧ DataW.trod enc P W base spare held m f1.type [c1] = some y1 ∧ DataW.trod enc P W base spare held m f2.type [c2] = some y2 ∧ DataW.trod enc P W base spare held m f3.type [c3] = some y3 := by
  obtain ⟨xs, n, _, hx, hsz, hlen, hg⟩ := DataW.trod_struct hs h
  rw [hC] at hsz
  match cs, hsz with
  | [c0, c1, c2, c3], _ =>
    obtain ⟨o0, k0⟩ := hone_of hone 0 f0 rfl
    obtain ⟨o1, k1⟩ := hone_of hone 1 f1 rfl
    obtain ⟨o2, k2⟩ := hone_of hone 2 f2 rfl
    obtain ⟨o3, k3⟩ := hone_of hone 3 f3 rfl
    match xs, hlen with
    | [y0, y1, y2, y3], _ => exact ⟨c0, c1, c2, c3, y0, y1, y2, y3, n, rfl, by simpa [o0, k0] using hg 0 f0 rfl, by simpa [o1, k1] using hg 1 f1 rfl, by simpa [o2, k2] using hg 2 f2 rfl, by simpa [o3, k3] using hg 3 f3 rfl⟩
end

theorem TopVolumesRecovered_law (v0 : Value) (l0 : List Int) (a0 a1 : Int) (v2 : Value) (l2 : List (Int × Int × Int × Int)) (hb : ∀ z ∈ l0, 0 ≤ z ∧ z ≤ 255) (ha0 : 0 ≤ a0) (ha0' : a0 ≤ 255) (ha1 : 0 ≤ a1) (ha1' : a1 ≤ 255)
    (h2 : ∀ x ∈ l2, (0 ≤ x.1 ∧ x.1 ≤ 255) ∧ (0 ≤ x.2.1 ∧ x.2.1 ≤ 255) ∧ (0 ≤ x.2.2.1 ∧ x.2.2.1 ≤ 255) ∧ (0 ≤ x.2.2.2 ∧ x.2.2.2 ≤ 255)) (W : World)
    (r0 : Rd W 1 v0 l0.length (l0.map (Value.int .u8))) (r2 : Rd W 4 v2 l2.length (l2.flatMap fun x : Int × Int × Int × Int => ([.int .u8 x.1, .int .u8 x.2.1, .int .u8 x.2.2.1, .int .u8 x.2.2.2] : List Value))) :
    Calls Try.prog 3 #[v0, .agg #[.int .u8 a0, .int .u8 a1], v2] W fun e w' => e = .returned (.bool true) ∧ Below W.heap.size W w' := by
  have hcs : U8s (l2.flatMap fun x : Int × Int × Int × Int => ([.int .u8 x.1, .int .u8 x.2.1, .int .u8 x.2.2.1, .int .u8 x.2.2.2] : List Value)) := by
    intro u hu
    obtain ⟨x, hx, hu⟩ := List.mem_flatMap.1 hu
    obtain ⟨k0, k1, k2, k3⟩ := h2 x hx
    simp only [List.mem_cons, List.not_mem_nil, or_false] at hu
    rcases hu with rfl | rfl | rfl | rfl
    · exact ⟨x.1.toNat, by omega, by rw [Int.toNat_of_nonneg k0.1]⟩
    · exact ⟨x.2.1.toNat, by omega, by rw [Int.toNat_of_nonneg k1.1]⟩
    · exact ⟨x.2.2.1.toNat, by omega, by rw [Int.toNat_of_nonneg k2.1]⟩
    · exact ⟨x.2.2.2.toNat, by omega, by rw [Int.toNat_of_nonneg k3.1]⟩
  have h := toprec_any v0 v2 l0 hb a0.toNat a1.toNat (by omega) (by omega) l2.length _ hcs W r0 r2
  rw [Int.toNat_of_nonneg ha0, Int.toNat_of_nonneg ha1] at h
  exact h.mono fun e w' ⟨he, hx⟩ => ⟨he, hx⟩
end Go.Proofs.Ytpfelklhejpnnaa
