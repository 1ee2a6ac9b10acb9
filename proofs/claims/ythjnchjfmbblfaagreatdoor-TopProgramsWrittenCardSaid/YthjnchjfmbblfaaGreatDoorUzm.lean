/- The reader, plain: its words become fewer; what read says in memory. -/
import Derived.Test.YthjnchjfmbblfaaGreatDoorUzk
import Derived.Test.YthjnchjfmbblfaaGreatDoorUzl
namespace Go.Proofs.YthjnchjfmbblfaaGreatDoor
open Go.RowKit
set_option linter.unusedVariables false
set_option linter.unusedSimpArgs false

theorem nextF_suf (e : Nat) (s : Src.RS) : (Src.nextF e s).2.ws <:+ s.ws := by
  unfold Src.nextF
  cases h : s.ws with
  | nil => simp only; rw [h]; exact List.suffix_refl _
  | cons p r => exact List.suffix_cons p r
theorem nameF_suf {e : Nat} {s : Src.RS} {a} (h : Src.nameF e s = .ok a) : a.2.ws <:+ s.ws := by
  unfold Src.nameF at h
  split at h
  · cases h; exact nextF_suf e s
  · cases h
theorem freshF_suf {e : Nat} {s : Src.RS} {a} (h : Src.freshF e s = .ok a) : a.2.ws <:+ s.ws := by
  unfold Src.freshF at h
  cases hn : Src.nameF e s with
  | error c => rw [hn] at h; cases h
  | ok b =>
    rw [hn] at h
    simp only at h
    split at h
    · cases h
    · cases h; exact nameF_suf hn
theorem indexF_suf {e : Nat} {L : List (List UInt8)} {s : Src.RS} {a} (h : Src.indexF e L s = .ok a) : a.2.ws <:+ s.ws := by
  unfold Src.indexF at h
  cases hn : Src.nameF e s with
  | error c => rw [hn] at h; cases h
  | ok b =>
    rw [hn] at h
    simp only at h
    split at h
    · cases h; exact nameF_suf hn
    · cases h
theorem valueF_suf {e : Nat} {s : Src.RS} {a} (h : Src.valueF e s = .ok a) : a.2.ws <:+ s.ws := by
  unfold Src.valueF at h
  split at h
  · cases h; exact nextF_suf e s
  · cases hn : Src.nameF e s with
    | error c => rw [hn] at h; cases h
    | ok b =>
      rw [hn] at h
      simp only at h
      split at h
      · cases h; exact nameF_suf hn
      · cases h
theorem arrayF_suf {e : Nat} {wide : Bool} {s s' : Src.RS} (h : Src.arrayF e wide s = .ok s') : s'.ws <:+ s.ws := by
  unfold Src.arrayF at h
  cases hn : Src.freshF e s with
  | error c => rw [hn] at h; cases h
  | ok b =>
    rw [hn] at h
    simp only at h
    split at h
    · cases h
    · cases hv : Src.valueF e b.2 with
      | error c => rw [hv] at h; cases h
      | ok d =>
        rw [hv] at h
        simp only at h
        split at h
        · cases h; exact (valueF_suf hv).trans (freshF_suf hn)
        · cases h
theorem localF_suf {e : Nat} {s s' : Src.RS} (h : Src.localF e s = .ok s') : s'.ws <:+ s.ws := by
  unfold Src.localF at h
  cases hn : Src.freshF e s with
  | error c => rw [hn] at h; cases h
  | ok b =>
    rw [hn] at h
    simp only at h
    split at h
    · cases h
    · cases h; exact freshF_suf hn
theorem constF_suf {e : Nat} {s s' : Src.RS} (h : Src.constF e s = .ok s') : s'.ws <:+ s.ws := by
  unfold Src.constF at h
  cases hn : Src.freshF e s with
  | error c => rw [hn] at h; cases h
  | ok b =>
    rw [hn] at h
    simp only at h
    cases hv : Src.valueF e b.2 with
    | error c => rw [hv] at h; cases h
    | ok d =>
      rw [hv] at h
      simp only at h
      cases h
      exact (valueF_suf hv).trans (freshF_suf hn)
theorem argF_suf {e : Nat} {op : Int} {s : Src.RS} {a} (h : Src.argF e op s = .ok a) : a.2.ws <:+ s.ws := by
  unfold Src.argF at h
  split at h
  · cases hv : Src.valueF e s with
    | error c => rw [hv] at h; cases h
    | ok d => rw [hv] at h; simp only at h; cases h; exact valueF_suf hv
  · split at h
    · cases hv : Src.valueF e s with
      | error c => rw [hv] at h; cases h
      | ok d =>
        rw [hv] at h
        simp only at h
        split at h
        · cases h; exact valueF_suf hv
        · cases h
    · split at h
      · exact indexF_suf h
      · split at h
        · exact indexF_suf h
        · cases h; exact List.suffix_refl _
theorem instrF_suf {e : Nat} {w : List UInt8 × Nat} {s s' : Src.RS} (h : Src.instrF e w s = .ok s') : s'.ws <:+ s.ws := by
  unfold Src.instrF at h
  split at h
  · cases h
  · split at h
    · cases h
    · cases hv : Src.argF e (Src.findW w.1).1 s with
      | error c => rw [hv] at h; cases h
      | ok d => rw [hv] at h; simp only at h; cases h; exact argF_suf hv
theorem stepF_suf {e : Nat} {w : List UInt8 × Nat} {s s' : Src.RS} (h : Src.stepF e w s = .ok s') : s'.ws <:+ s.ws := by
  unfold Src.stepF at h
  split at h
  · exact arrayF_suf h
  · split at h
    · exact arrayF_suf h
    · split at h
      · exact localF_suf h
      · split at h
        · exact constF_suf h
        · exact instrF_suf h
theorem wds_short (n : Nat) : ∀ (l : List UInt8) (i : Nat), ∀ x ∈ Src.spl n l i, x.1.length ≤ l.length := by
  induction n with
  | zero => intro l i x hx; cases l <;> cases hx
  | succ n ih =>
    intro l i x hx
    cases l with
    | nil => cases hx
    | cons c r =>
      unfold Src.spl at hx
      split at hx
      · have := ih _ _ x hx
        have h2 := (List.dropWhile_sublist (· != 10) (l := c :: r)).length_le
        omega
      · split at hx
        · have := ih _ _ x hx
          simp only [List.length_cons]
          omega
        · rcases List.mem_cons.1 hx with rfl | hx
          · exact (List.takeWhile_sublist _).length_le
          · have := ih _ _ x hx
            have h2 := (List.dropWhile_sublist (! Src.isSep ·) (l := c :: r)).length_le
            omega
theorem wds_len (n : Nat) : ∀ (l : List UInt8) (i : Nat), (Src.spl n l i).length ≤ n := by
  induction n with
  | zero => intro l i; cases l <;> exact Nat.le_refl _
  | succ n ih =>
    intro l i
    cases l with
    | nil => exact Nat.zero_le _
    | cons c r =>
      unfold Src.spl
      split
      · have := ih ((c :: r).dropWhile (· != 10)) (i + ((c :: r).takeWhile (· != 10)).length); omega
      · split
        · have := ih r (i + 1); omega
        · have := ih ((c :: r).dropWhile (! Src.isSep ·)) (i + ((c :: r).takeWhile (! Src.isSep ·)).length)
          simp only [List.length_cons]
          omega
/-- What read leaves. -/
def ReadR (e : Nat) (R : Src.RE Src.RS) (w : World) (x : Ending) (w' : World) : Prop := match R with
  | .ok s => ∃ r m B, x = .returned (.tuple #[.pointer (some ⟨r, 0, none⟩), .int .i64 0, .int .i64 0]) ∧ RMem w' B r m e s ∧ w.heap.size ≤ B ∧ Ext w w'
  | .error c => x = .returned (.tuple #[.pointer none, .int .i64 (c.1 : Int), .int .i64 c.2]) ∧ Ext w w'
end Go.Proofs.YthjnchjfmbblfaaGreatDoor
