/- Slices of integers that came in: read as a list. -/
import Derived.Test.YthjnchjfmbblfaaGreatDoorMz
import Derived.ChangeSlices
import Derived.OpenShut
import Derived.ChangeOld
import Derived.Below
import Derived.Carry
import Derived.Lib.SmallJoins
import Derived.Deep.Slices
import Derived.Deep.Fields
import Derived.ChangeSame
namespace Go.Proofs.YthjnchjfmbblfaaGreatDoor
open Go.RowKit Go.ChangeShapes Go.WideShapes
set_option linter.unusedVariables false

theorem open_row {P : Program} {H : Type} {enc : TypeId × Value → H} {W : World} {t e : TypeId} {k : IntKind} {fuel : Nat} {cs : List Value} {x : DataW H × List MemPlace} (ht : P.underlying t = some (.slice e)) (he : P.underlying e = some (.int k)) (hc : P.cellsOf e = 1)
    (h : DataW.trod enc P W 0 (fun _ => true) true fuel t cs = some x) :
    ∃ (a : Option Addr) (len cap : Nat) (zs : List Int), cs = [.slice a len cap] ∧ zs.length = len ∧ Rd W 1 (.slice a len cap) len (zs.map (Value.int k)) ∧ ∀ z ∈ zs, (Lit.int k z).wf = true := by
  rcases open_ints ht he hc h with ⟨rfl, _⟩ | ⟨x, l, c, zs, rfl, _, hl, hm, hz, _, hcell, hwz⟩
  · exact ⟨none, 0, 0, [], rfl, rfl, Rd.nil W 1, fun z hz => by cases hz⟩
  · simp only [if_true] at hz
    have hlen : (zs.take l).length = l := by rw [List.length_take]; omega
    refine ⟨some x, l, c, zs.take l, rfl, hlen, ⟨by simp [hz]; omega, some x, c, rfl, hl, hm, (fun e => by cases e), fun hn => ?_⟩, fun z hz => hwz z (List.mem_of_mem_take hz)⟩
    obtain ⟨b, off, spot⟩ := x
    have hc0 := hcell 0 (by omega)
    have hspot : spot = none := by simpa [Addr.add] using World.cell?_spot hc0
    subst hspot
    have each : ∀ i, i < zs.length → W.cell? ⟨b, off + i, none⟩ = some (.int k (zs.getD i 0)) := by
      intro i hi
      have h1 := hcell i hi
      rw [← h1]
      unfold Addr.add
      split
      · next hz => subst hz; rfl
      · rfl
    refine ⟨b, off, rfl, cell_lt (each 0 (by omega)), fun j hj => ?_⟩
    have hjl : j < l := by simp at hj; omega
    rw [each j (by omega)]
    have hj2 : j < zs.length := by omega
    simp [List.getD, hjl, hj2]
end Go.Proofs.YthjnchjfmbblfaaGreatDoor

/- Slices of structs (and of anything whose cells tell it) that came in: read as a list of plain data. -/
namespace Go.Proofs.YthjnchjfmbblfaaGreatDoor
open Go.RowKit Go.ChangeShapes Go.WideShapes Go.Deep
set_option linter.unusedVariables false

theorem list_choose {α : Type} (n : Nat) (p : Nat → α → Prop) (h : ∀ i, i < n → ∃ x, p i x) : ∃ l : List α, l.length = n ∧ ∀ i x, l[i]? = some x → p i x := by
  induction n with
  | zero => exact ⟨[], rfl, fun i x hx => by simp at hx⟩
  | succ n ih =>
    obtain ⟨l, hl, hp⟩ := ih (fun i hi => h i (by omega))
    obtain ⟨y, hy⟩ := h n (by omega)
    refine ⟨l ++ [y], by simp [hl], fun i x hx => ?_⟩
    by_cases hi : i < l.length
    · rw [List.getElem?_append_left hi] at hx
      exact hp i x hx
    · rw [List.getElem?_append_right (by omega)] at hx
      have h0 : i - l.length = 0 := by
        rcases Nat.eq_zero_or_pos (i - l.length) with h0 | h0
        · exact h0
        · rw [List.getElem?_eq_none (by simp; omega)] at hx; cases hx
      rw [h0] at hx
      simp at hx
      subst hx
      obtain rfl : i = n := by omega
      exact hy
theorem flat_len {α : Type} (E : α → List Value) (C : Nat) (hE : ∀ x, (E x).length = C) (l : List α) : (l.flatMap E).length = l.length * C := by
  induction l with
  | nil => simp
  | cons x l ih => rw [List.flatMap_cons, List.length_append, hE, ih, List.length_cons, Nat.succ_mul]; omega
theorem flat_get {α : Type} (E : α → List Value) (C : Nat) (hE : ∀ x, (E x).length = C) (l : List α) (i j : Nat) (x : α) (hx : l[i]? = some x) (hj : j < C) : (l.flatMap E)[i * C + j]? = (E x)[j]? := by
  induction l generalizing i with
  | nil => simp at hx
  | cons y l ih =>
    rw [List.flatMap_cons]
    cases i with
    | zero =>
      simp at hx
      subst hx
      rw [Nat.zero_mul, Nat.zero_add, List.getElem?_append_left (by rw [hE]; exact hj)]
    | succ i =>
      rw [List.getElem?_append_right (by rw [hE, Nat.succ_mul]; omega), hE, show (i + 1) * C + j - C = i * C + j by rw [Nat.succ_mul]; omega]
      exact ih i (by simpa using hx)
theorem getD_val {cs : List Value} {i : Nat} {v : Value} (h : cs[i]? = some v) : cs.getD i undef = v := by simp [List.getD, h]

/-- A slice of elements, each read out of its own cells. -/
theorem open_rowsE {α : Type} {P : Program} {H : Type} {enc : TypeId × Value → H} {W : World} {t e : TypeId} {fuel : Nat} {cs : List Value} {x : DataW H × List MemPlace} (E : α → List Value) (Ok : α → Prop) (C : Nat)
    (ht : P.underlying t = some (.slice e)) (hC : P.cellsOf e = C) (h0 : 0 < C) (hE : ∀ x, (E x).length = C)
    (hr : ∀ (n : Nat) (cs : List Value) (y : DataW H × List MemPlace), DataW.trod enc P W 0 (fun _ => true) true n e cs = some y → ∃ x, cs = E x ∧ Ok x)
    (h : DataW.trod enc P W 0 (fun _ => true) true fuel t cs = some x) :
    ∃ (a : Option Addr) (len cap : Nat) (l : List α), cs = [.slice a len cap] ∧ l.length = len ∧ Rd W C (.slice a len cap) len (l.flatMap E) ∧ ∀ x ∈ l, Ok x := by
  rcases open_slice ht h with ⟨rfl, _⟩ | ⟨a, len, cap, m, n, D, Pl, rfl, _, hl, hm, hmm, _, hi⟩
  · exact ⟨none, 0, 0, [], rfl, rfl, ⟨by simp, none, 0, rfl, Nat.le_refl _, Nat.zero_le _, fun _ => rfl, fun h => absurd h (Nat.lt_irrefl _)⟩, fun z hz => by cases hz⟩
  · simp only [if_true] at hmm
    subst hmm
    obtain ⟨l, hll, hp⟩ := list_choose len (fun i x => (∀ j, j < C → W.cell? (a.add (i * C + j)) = (E x)[j]?) ∧ Ok x) (fun i hi' => by
      obtain ⟨cs', hc, ht'⟩ := hi i (by omega)
      rw [hC] at hc
      obtain ⟨x, rfl, hok⟩ := hr _ _ _ ht'
      obtain ⟨_, _, hat⟩ := World.cells?_some hc
      exact ⟨x, fun j hj => by rw [← hat j hj, Go.Deep.add_add], hok⟩)
    have hfl := flat_len E C hE l
    refine ⟨some a, len, m, l, rfl, hll, ⟨by rw [hfl, hll], some a, m, rfl, hl, hm, (fun e => by cases e), fun hn => ?_⟩, fun z hz => ?_⟩
    · obtain ⟨b, off, spot⟩ := a
      have hx0 : ∃ x, l[0]? = some x := ⟨l[0]'(by omega), List.getElem?_eq_getElem (by omega)⟩
      obtain ⟨x0, hx0⟩ := hx0
      have hc0 := (hp 0 x0 hx0).1 0 h0
      have hE0 : ∃ v, (E x0)[0]? = some v := ⟨(E x0)[0]'(by rw [hE]; exact h0), List.getElem?_eq_getElem (by rw [hE]; exact h0)⟩
      obtain ⟨v0, hv0⟩ := hE0
      rw [hv0] at hc0
      have hspot : spot = none := by simpa [Addr.add] using World.cell?_spot hc0
      subst hspot
      have each : ∀ j, j < (l.flatMap E).length → W.cell? ⟨b, off + j, none⟩ = some ((l.flatMap E).getD j undef) := by
        intro j hj
        rw [hfl] at hj
        have hq : j / C < l.length := by rw [Nat.div_lt_iff_lt_mul h0]; exact hj
        have hm' := Nat.mod_lt j h0
        have hd : j = j / C * C + j % C := by rw [Nat.mul_comm]; exact (Nat.div_add_mod j C).symm
        have hx1 : l[j / C]? = some (l[j / C]'hq) := List.getElem?_eq_getElem hq
        have h1 := (hp (j / C) _ hx1).1 (j % C) hm'
        rw [← flat_get E C hE l (j / C) (j % C) _ hx1 hm', ← hd] at h1
        rw [List.getElem?_eq_getElem (by rw [hfl]; exact hj)] at h1
        have h2 : (l.flatMap E).getD j undef = (l.flatMap E)[j]'(by rw [hfl]; exact hj) := by simp [List.getD, List.getElem?_eq_getElem (show j < (l.flatMap E).length by rw [hfl]; exact hj)]
        rw [h2, ← h1]
        unfold Addr.add
        split
        · next hz => rw [hz]; rfl
        · rfl
      exact ⟨b, off, rfl, cell_lt (each 0 (by rw [hfl, hll]; exact Nat.mul_pos hn h0)), each⟩
    · obtain ⟨i, hi1, rfl⟩ := List.mem_iff_getElem.1 hz
      exact (hp i _ (List.getElem?_eq_getElem hi1)).2

/-! The fields of a struct, out of its cells. -/
section
variable {P : Program} {H : Type} {enc : TypeId × Value → H} {W : World} {base : Nat} {spare : Nat → Bool} {held : Bool} {fuel : Nat} {cs : List Value} {x : DataW H × List MemPlace} {t : TypeId}
theorem read_struct2 {f0 f1 : Field} (hs : P.underlying t = some (.struct #[f0, f1])) (hone : oneCellFields P #[f0, f1] = true) (hC : P.cellsOf t = 2) (h : DataW.trod enc P W base spare held fuel t cs = some x) :
    ∃ c0 c1 y0 y1 m, cs = [c0, c1] ∧ DataW.trod enc P W base spare held m f0.type [c0] = some y0 ∧ DataW.trod enc P W base spare held m f1.type [c1] = some y1 := by
  obtain ⟨xs, n, _, hx, hsz, hlen, hg⟩ := DataW.trod_struct hs h
  rw [hC] at hsz
  match cs, hsz with
  | [c0, c1], _ =>
    obtain ⟨o0, k0⟩ := hone_of hone 0 f0 rfl
    obtain ⟨o1, k1⟩ := hone_of hone 1 f1 rfl
    match xs, hlen with
    | [y0, y1], _ => exact ⟨c0, c1, y0, y1, n, rfl, by simpa [o0, k0] using hg 0 f0 rfl, by simpa [o1, k1] using hg 1 f1 rfl⟩
theorem read_struct3 {f0 f1 f2 : Field} (hs : P.underlying t = some (.struct #[f0, f1, f2])) (hone : oneCellFields P #[f0, f1, f2] = true) (hC : P.cellsOf t = 3) (h : DataW.trod enc P W base spare held fuel t cs = some x) :
    ∃ c0 c1 c2 y0 y1 y2 m, cs = [c0, c1, c2] ∧ DataW.trod enc P W base spare held m f0.type [c0] = some y0 ∧ DataW.trod enc P W base spare held m f1.type [c1] = some y1 ∧ DataW.trod enc P W base spare held m f2.type [c2] = some y2 := by
  obtain ⟨xs, n, _, hx, hsz, hlen, hg⟩ := DataW.trod_struct hs h
  rw [hC] at hsz
  match cs, hsz with
  | [c0, c1, c2], _ =>
    obtain ⟨o0, k0⟩ := hone_of hone 0 f0 rfl
    obtain ⟨o1, k1⟩ := hone_of hone 1 f1 rfl
    obtain ⟨o2, k2⟩ := hone_of hone 2 f2 rfl
    match xs, hlen with
    | [y0, y1, y2], _ => exact ⟨c0, c1, c2, y0, y1, y2, n, rfl, by simpa [o0, k0] using hg 0 f0 rfl, by simpa [o1, k1] using hg 1 f1 rfl, by simpa [o2, k2] using hg 2 f2 rfl⟩
end
end Go.Proofs.YthjnchjfmbblfaaGreatDoor
