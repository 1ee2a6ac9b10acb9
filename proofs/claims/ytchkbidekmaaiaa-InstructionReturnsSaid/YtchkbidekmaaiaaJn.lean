/- The plain law of programs (layer 15): their form and their encoding. -/
import Derived.Test.YtchkbidekmaaiaaJc
import Derived.Test.YtchkbidekmaaiaaJl
import Derived.Test.YtchkbidekmaaiaaP
namespace Go.Proofs.Ytchkbidekmaaiaa
open Go.RowKit
set_option linter.unusedVariables false
/-- The cells of an array, and of an instruction. -/
def cA (x : Bool × Int) : List Value := [.bool x.1, .int .i64 x.2]
def cI (x : Int × Int) : List Value := [.int .i64 x.1, .int .u32 x.2]
def Arr (w : World) (v : Value) (l : List (Bool × Int)) : Prop := Rd w 2 v l.length (l.flatMap cA)
def Cod (w : World) (v : Value) (l : List (Int × Int)) : Prop := Rd w 2 v l.length (l.flatMap cI)
def OkA (l : List (Bool × Int)) : Prop := ∀ x ∈ l, -9223372036854775808 ≤ x.2 ∧ x.2 ≤ 9223372036854775807
def OkI (l : List (Int × Int)) : Prop := ∀ x ∈ l, (-9223372036854775808 ≤ x.1 ∧ x.1 ≤ 9223372036854775807) ∧ 0 ≤ x.2 ∧ x.2 ≤ 4294967295
theorem rd2_at {α : Type} {E : α → List Value} (hE : ∀ x, (E x).length = 2) {w : World} {b off n cap : Nat} {l : List α} (h : Rd w 2 (.slice (some ⟨b, off, none⟩) n cap) n (l.flatMap E)) (k : Nat) (x : α) (hx : l[k]? = some x) (u0 u1 : Value) (hu : E x = [u0, u1]) :
    w.cell? ⟨b, off + k * 2, none⟩ = some u0 ∧ w.cell? ⟨b, off + k * 2 + 1, none⟩ = some u1 := by
  have hk : k < l.length := (List.getElem?_eq_some_iff.1 hx).1
  have hl := flat_len E 2 hE l
  have hn : l.length = n := by have := h.len; omega
  obtain ⟨b', off', e, -, hc⟩ := h.cells (by omega)
  simp only [Option.some.injEq, Addr.mk.injEq, and_true] at e
  obtain ⟨rfl, rfl⟩ := e
  have g0 := flat_get E 2 hE l k 0 x hx (by decide)
  have g1 := flat_get E 2 hE l k 1 x hx (by decide)
  have c0 := hc (k * 2) (by omega)
  have c1 := hc (k * 2 + 1) (by omega)
  rw [hu] at g0 g1
  rw [Nat.add_zero] at g0
  rw [show (l.flatMap E).getD (k * 2) undef = u0 from getD_val g0] at c0
  rw [show (l.flatMap E).getD (k * 2 + 1) undef = u1 from getD_val g1] at c1
  exact ⟨c0, by rw [← c1, Nat.add_assoc]⟩
theorem cA_len (x : Bool × Int) : (cA x).length = 2 := rfl
theorem cI_len (x : Int × Int) : (cI x).length = 2 := rfl
theorem drop_at {α : Type} {l : List α} {k : Nat} {x : α} (h : l[k]? = some x) : l.drop k = x :: l.drop (k + 1) := by
  obtain ⟨hk, rfl⟩ := List.getElem?_eq_some_iff.1 h
  exact List.drop_eq_getElem_cons hk
theorem at_lt {α : Type} (l : List α) {k : Nat} (h : k < l.length) : ∃ x, l[k]? = some x ∧ x ∈ l := ⟨l[k], List.getElem?_eq_getElem h, List.getElem_mem h⟩
/-- The error of arrays, where so many cells are left. -/
def arrs : Int → List (Bool × Int) → Int
  | _, [] => 0
  | left, a :: r => if a.2 < 1 ∨ left < a.2 then 2 else arrs (left - a.2) r
def arrE (l : List (Bool × Int)) : Int := if 8 < l.length then 6 else arrs 65536 l
def codE : List (Int × Int) → Int
  | [] => 0
  | i :: r => if chkI i.1 i.2 ≠ 0 then chkI i.1 i.2 else codE r
def formE (A : List (Bool × Int)) (L : Int) (C : List (Int × Int)) : Int :=
  if arrE A ≠ 0 then arrE A else if L < 0 ∨ 16 < L then 2 else if 1024 < C.length then 6 else codE C
/-- The encoding. -/
def arrN (a : Bool × Int) : Int := 2 * a.2 + (if a.1 then 1 else 0)
def encA (l : List (Bool × Int)) : List Int := l.flatMap fun a => wenc (wnum (arrN a))
def encI (i : Int × Int) : List Int := i.1 % 256 :: (if (opAt i.1).2.2.2.2 then wenc i.2 else [])
def encC (l : List (Int × Int)) : List Int := l.flatMap encI
def progB (A : List (Bool × Int)) (L : Int) (C : List (Int × Int)) : List Int := wenc A.length ++ encA A ++ wenc L ++ wenc C.length ++ encC C
theorem encA_snoc (l : List (Bool × Int)) (a : Bool × Int) : encA (l ++ [a]) = encA l ++ wenc (wnum (arrN a)) := by simp [encA]
theorem encC_snoc (l : List (Int × Int)) (i : Int × Int) : encC (l ++ [i]) = encC l ++ encI i := by simp [encC]
end Go.Proofs.Ytchkbidekmaaiaa
