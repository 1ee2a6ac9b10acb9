/- The plain law of decoding (layer 15). -/
import Derived.Test.YtchkbidekmaaiaaJr
namespace Go.Proofs.Ytchkbidekmaaiaa
open Go.RowKit
set_option linter.unusedVariables false

/-- A rest of bytes. -/
def Sub (S T : List Int) : Prop := ∃ k, T = S.drop k
theorem Sub.refl (S : List Int) : Sub S S := ⟨0, rfl⟩
theorem Sub.trans {S T U : List Int} (h : Sub S T) (k : Sub T U) : Sub S U := by
  obtain ⟨i, rfl⟩ := h; obtain ⟨j, rfl⟩ := k; exact ⟨i + j, by rw [List.drop_drop]⟩
theorem Sub.bytes {S T : List Int} (h : Sub S T) (hb : Bytes S) : Bytes T := by
  obtain ⟨i, rfl⟩ := h; exact fun x hx => hb x (List.mem_of_mem_drop hx)
theorem Sub.len {S T : List Int} (h : Sub S T) : T.length ≤ S.length := by
  obtain ⟨i, rfl⟩ := h; rw [List.length_drop]; omega
theorem numF_sub (most beyond : Int) (S : List Int) (e : Int) : Sub S (numF most beyond S e).2.1 := by
  unfold numF
  split
  · exact Sub.refl S
  · split
    · exact wrd_sub S
    · split <;> exact wrd_sub S
theorem numF_bd (most beyond : Int) (h0 : 0 ≤ most) (S : List Int) (hb : Bytes S) (e : Int) : 0 ≤ (numF most beyond S e).1 ∧ (numF most beyond S e).1 ≤ most := by
  unfold numF
  split
  · exact ⟨by simp, h0⟩
  · split
    · exact ⟨by simp, h0⟩
    · split
      · exact ⟨by simp, h0⟩
      · next h1 h2 h3 => exact ⟨(wrd_num S hb (Decidable.not_not.1 h2)).1, by simpa using h3⟩
theorem opF_sub (S : List Int) (e : Int) : Sub S (opF S e).2.1 := by
  unfold opF
  split
  · exact Sub.refl S
  · split
    · exact Sub.refl _
    · exact ⟨1, rfl⟩
theorem opF_bd (S : List Int) (hb : Bytes S) (e : Int) : 0 ≤ (opF S e).1 ∧ (opF S e).1 ≤ 255 := by
  unfold opF
  split
  · simp
  · split
    · simp
    · next _ y l => exact hb y (by simp)

def arrIt (S : List Int) (e : Int) : Nat → List (Bool × Int) × List Int × Int
  | 0 => ([], S, e)
  | k + 1 => ((arrIt S e k).1 ++ [((numF 9007199254740991 2 (arrIt S e k).2.1 (arrIt S e k).2.2).1 % 2 == 1, (numF 9007199254740991 2 (arrIt S e k).2.1 (arrIt S e k).2.2).1 / 2)], (numF 9007199254740991 2 (arrIt S e k).2.1 (arrIt S e k).2.2).2)
def argF (op : Int) (S : List Int) (e : Int) : Int × List Int × Int := if (opAt op).2.2.2.2 then numF 4294967295 2 S e else (0, S, e)
def codIt (S : List Int) (e : Int) : Nat → List (Int × Int) × List Int × Int
  | 0 => ([], S, e)
  | k + 1 => ((codIt S e k).1 ++ [((opF (codIt S e k).2.1 (codIt S e k).2.2).1, (argF (opF (codIt S e k).2.1 (codIt S e k).2.2).1 (opF (codIt S e k).2.1 (codIt S e k).2.2).2.1 (opF (codIt S e k).2.1 (codIt S e k).2.2).2.2).1)],
      (argF (opF (codIt S e k).2.1 (codIt S e k).2.2).1 (opF (codIt S e k).2.1 (codIt S e k).2.2).2.1 (opF (codIt S e k).2.1 (codIt S e k).2.2).2.2).2)
theorem argF_sub (op : Int) (S : List Int) (e : Int) : Sub S (argF op S e).2.1 := by
  unfold argF
  split
  · exact numF_sub _ _ _ _
  · exact Sub.refl S
theorem argF_bd (op : Int) (S : List Int) (hb : Bytes S) (e : Int) : 0 ≤ (argF op S e).1 ∧ (argF op S e).1 ≤ 4294967295 := by
  unfold argF
  split
  · exact numF_bd _ _ (by omega) _ hb _
  · simp
theorem arrIt_sub (S : List Int) (e : Int) (k : Nat) : Sub S (arrIt S e k).2.1 := by
  induction k with
  | zero => exact Sub.refl S
  | succ k ih => exact ih.trans (numF_sub _ _ _ _)
theorem codIt_sub (S : List Int) (e : Int) (k : Nat) : Sub S (codIt S e k).2.1 := by
  induction k with
  | zero => exact Sub.refl S
  | succ k ih => exact (ih.trans (opF_sub _ _)).trans (argF_sub _ _ _)
theorem arrIt_len (S : List Int) (e : Int) (k : Nat) : (arrIt S e k).1.length = k := by
  induction k with
  | zero => rfl
  | succ k ih => show (_ ++ [_]).length = _; simp [ih]
theorem codIt_len (S : List Int) (e : Int) (k : Nat) : (codIt S e k).1.length = k := by
  induction k with
  | zero => rfl
  | succ k ih => show (_ ++ [_]).length = _; simp [ih]
theorem arrIt_ok (S : List Int) (hb : Bytes S) (e : Int) (k : Nat) : OkA (arrIt S e k).1 := by
  induction k with
  | zero => intro x hx; cases hx
  | succ k ih =>
    intro x hx
    rcases List.mem_append.1 hx with hx | hx
    · exact ih x hx
    · simp only [List.mem_singleton] at hx
      subst hx
      have := numF_bd 9007199254740991 2 (by omega) _ ((arrIt_sub S e k).bytes hb) (arrIt S e k).2.2
      simp only
      omega
theorem codIt_ok (S : List Int) (hb : Bytes S) (e : Int) (k : Nat) : OkI (codIt S e k).1 := by
  induction k with
  | zero => intro x hx; cases hx
  | succ k ih =>
    intro x hx
    rcases List.mem_append.1 hx with hx | hx
    · exact ih x hx
    · simp only [List.mem_singleton] at hx
      subst hx
      have h1 := opF_bd _ ((codIt_sub S e k).bytes hb) (codIt S e k).2.2
      have h2 := argF_bd (opF (codIt S e k).2.1 (codIt S e k).2.2).1 _ (((codIt_sub S e k).trans (opF_sub _ (codIt S e k).2.2)).bytes hb) (opF (codIt S e k).2.1 (codIt S e k).2.2).2.2
      exact ⟨⟨by simp only; omega, by simp only; omega⟩, h2⟩
theorem arg_isOp (op : Int) : (opAt op).2.2.2.2 = true → isOp op = true := by
  unfold opAt isOp
  intro h
  by_cases hc : 0 ≤ op ∧ op < 36
  · exact decide_eq_true hc
  · rw [if_neg hc] at h; cases h
structure Dec where
  e : Int
  A : List (Bool × Int)
  L : Int
  C : List (Int × Int)
  r : List Int
/-- What Decode leaves. -/
def decG (S : List Int) : Dec :=
  let s1 := numF 8 6 S 0
  let s2 := arrIt s1.2.1 s1.2.2 s1.1.toNat
  let s3 := numF 9007199254740991 2 s2.2.1 s2.2.2
  let s4 := numF 1024 6 s3.2.1 s3.2.2
  let s5 := codIt s4.2.1 s4.2.2 s4.1.toNat
  ⟨if s5.2.2 = 0 then formE s2.1 s3.1 s5.1 else s5.2.2, s2.1, s3.1, s5.1, s5.2.1⟩
def decF (S : List Int) : Dec := if (decG S).e ≠ 0 then ⟨(decG S).e, [], 0, [], []⟩ else decG S
end Go.Proofs.Ytchkbidekmaaiaa
