/- Slices of integers that came in: read as a list. -/
import Derived.Test.YtfebgcbkadmgiaaM
import Derived.ChangeSlices
import Derived.OpenShut
import Derived.ChangeOld
import Derived.Below
import Derived.Carry
import Derived.Lib.SmallJoins
namespace Go.Proofs.Ytfebgcbkadmgiaa
open Go.RowKit Go.ChangeShapes Go.WideShapes
set_option linter.unusedVariables false

theorem open_row {P : Program} {H : Type} {enc : TypeId × Value → H} {W : World} {t e : TypeId} {k : IntKind} {fuel : Nat} {cs : List Value} {x : DataW H × List MemPlace} (ht : P.underlying t = some (.slice e)) (he : P.underlying e = some (.int k)) (hc : P.cellsOf e = 1)
    (h : DataW.trod enc P W 0 (fun _ => true) true fuel t cs = some x) :
    ∃ (a : Option Addr) (len cap : Nat) (zs : List Int), cs = [.slice a len cap] ∧ zs.length = len ∧ Rd W 1 (.slice a len cap) len (zs.map (Value.int k)) ∧ ∀ z ∈ zs, (Lit.int k z).wf = true := by
  rcases open_ints ht he hc h with ⟨rfl, _⟩ | ⟨x, l, c, zs, rfl, _, hl, hm, hz, _, hcell, hwz⟩
  · exact ⟨none, 0, 0, [], rfl, rfl, Rd.nil W 1, fun z hz => by cases hz⟩
  · simp only [if_true] at hz
    have hlen : (zs.take l).length = l := by rw [List.length_take]; omega
    refine ⟨some x, l, c, zs.take l, rfl, hlen, ⟨by simp [hz]; omega, some x, c, rfl, hl, hm, (fun e => by cases e), fun hn => ?_⟩, fun z hz => hwz z (List.mem_of_mem_take hz)⟩
    obtain ⟨b, off, spot⟩ := x
    have hc0 := hcell 0 (by omega)
    have hspot : spot = none := by simpa [Addr.add] using World.cell?_spot hc0
    subst hspot
    have each : ∀ i, i < zs.length → W.cell? ⟨b, off + i, none⟩ = some (.int k (zs.getD i 0)) := by
      intro i hi
      have h1 := hcell i hi
      rw [← h1]
      unfold Addr.add
      split
      · next hz => subst hz; rfl
      · rfl
    refine ⟨b, off, rfl, cell_lt (each 0 (by omega)), fun j hj => ?_⟩
    have hjl : j < l := by simp at hj; omega
    rw [each j (by omega)]
    have hj2 : j < zs.length := by omega
    simp [List.getD, hjl, hj2]
end Go.Proofs.Ytfebgcbkadmgiaa
