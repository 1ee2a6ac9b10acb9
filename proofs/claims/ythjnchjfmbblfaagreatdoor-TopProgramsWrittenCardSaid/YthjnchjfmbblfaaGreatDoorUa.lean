/- The words of a source text, plain: no program is in sight. -/
import Derived.Lib.ItoaNum
namespace Go.Proofs.YthjnchjfmbblfaaGreatDoor.Src
set_option linter.unusedVariables false

/-- A blank, a sign that ends a word. -/
def isSp (c : UInt8) : Bool := c == 32 || c == 9 || c == 10
def isSep (c : UInt8) : Bool := isSp c || c == 59
theorem dropW_le {α : Type} (p : α → Bool) (l : List α) : (l.dropWhile p).length ≤ l.length := by
  have h := congrArg List.length (List.takeWhile_append_dropWhile (p := p) (l := l))
  rw [List.length_append] at h
  omega
theorem dropW_lt {α : Type} (p : α → Bool) (c : α) (l : List α) (h : p c = true) : ((c :: l).dropWhile p).length < (c :: l).length := by
  rw [List.dropWhile_cons, if_pos h]
  have := dropW_le p l
  simp only [List.length_cons]
  omega

/-- The words of a text with their places, from a place on; 'n' is fuel (the length of what is left is enough). -/
def spl : Nat → List UInt8 → Nat → List (List UInt8 × Nat)
  | 0, _, _ => []
  | _ + 1, [], _ => []
  | n + 1, c :: r, i =>
    if c = 59 then spl n ((c :: r).dropWhile (· != 10)) (i + ((c :: r).takeWhile (· != 10)).length)
    else if isSp c then spl n r (i + 1)
    else ((c :: r).takeWhile (! isSep ·), i) :: spl n ((c :: r).dropWhile (! isSep ·)) (i + ((c :: r).takeWhile (! isSep ·)).length)
/-- The fuel does not matter. -/
theorem spl_fuel (n : Nat) : ∀ (m : Nat) (l : List UInt8) (i : Nat), l.length ≤ n → l.length ≤ m → spl n l i = spl m l i := by
  induction n with
  | zero =>
    intro m l i h _
    obtain rfl : l = [] := List.eq_nil_of_length_eq_zero (by omega)
    cases m <;> rfl
  | succ n ih =>
    intro m l i h hm
    cases l with
    | nil => cases m <;> rfl
    | cons c r =>
      cases m with
      | zero => simp at hm
      | succ m =>
        simp only [List.length_cons] at h hm
        unfold spl
        split
        · next hc =>
          have h1 := dropW_lt (· != 10) c r (by subst hc; decide)
          simp only [List.length_cons] at h1
          exact ih m _ _ (by omega) (by omega)
        · split
          · exact ih m _ _ (by omega) (by omega)
          · next hc hs =>
            have h1 := dropW_lt (! isSep ·) c r (by simp [isSep, hc, hs])
            simp only [List.length_cons] at h1
            rw [ih m _ _ (by omega) (by omega)]
/-- The words of a text. -/
def wds (l : List UInt8) (i : Nat) : List (List UInt8 × Nat) := spl l.length l i
theorem wds_nil (i : Nat) : wds [] i = [] := rfl
theorem wds_note (r : List UInt8) (i : Nat) : wds (59 :: r) i = wds ((59 :: r).dropWhile (· != 10)) (i + ((59 :: r).takeWhile (· != 10)).length) := by
  have h1 := dropW_lt (· != 10) 59 r (by decide)
  simp only [List.length_cons] at h1
  show spl (r.length + 1) _ _ = _
  rw [spl, if_pos rfl]
  exact spl_fuel _ _ _ _ (by omega) (Nat.le_refl _)
theorem wds_sp (c : UInt8) (r : List UInt8) (i : Nat) (h : isSp c = true) : wds (c :: r) i = wds r (i + 1) := by
  have hc : c ≠ 59 := by rintro rfl; exact absurd h (by decide)
  show spl (r.length + 1) _ _ = _
  rw [spl, if_neg hc, if_pos h]
  rfl
theorem wds_word (c : UInt8) (r : List UInt8) (i : Nat) (h : isSep c = false) :
    wds (c :: r) i = ((c :: r).takeWhile (! isSep ·), i) :: wds ((c :: r).dropWhile (! isSep ·)) (i + ((c :: r).takeWhile (! isSep ·)).length) := by
  have h' : ¬ isSp c = true ∧ ¬ c = 59 := by simpa [isSep] using h
  have h1 := dropW_lt (! isSep ·) c r (by simp [h])
  simp only [List.length_cons] at h1
  show spl (r.length + 1) _ _ = _
  rw [spl, if_neg h'.2, if_neg h'.1]
  congr 1
  exact spl_fuel _ _ _ _ (by omega) (Nat.le_refl _)

/-! The words of a line. -/
/-- A word: some bytes, none of which ends one. -/
def Wd (w : List UInt8) : Prop := w ≠ [] ∧ ∀ c ∈ w, isSep c = false
theorem takeW_app {α : Type} (p : α → Bool) (w r : List α) (hw : ∀ c ∈ w, p c = true) (hr : ∀ c, r.head? = some c → p c = false) : (w ++ r).takeWhile p = w ∧ (w ++ r).dropWhile p = r := by
  induction w with
  | nil =>
    cases r with
    | nil => exact ⟨rfl, rfl⟩
    | cons c r => simp [hr c rfl]
  | cons c w ih =>
    have := ih (fun d hd => hw d (List.mem_cons_of_mem _ hd))
    simp [hw c (List.mem_cons_self), this.1, this.2]
theorem wds_one (w r : List UInt8) (i : Nat) (hw : Wd w) (hr : ∀ c, r.head? = some c → isSep c = true) : wds (w ++ r) i = (w, i) :: wds r (i + w.length) := by
  obtain ⟨hn, hs⟩ := hw
  cases w with
  | nil => exact absurd rfl hn
  | cons c w =>
    obtain ⟨h1, h2⟩ := takeW_app (! isSep ·) (c :: w) r (fun d hd => by simp [hs d hd]) (fun d hd => by simp [hr d hd])
    have := wds_word c (w ++ r) i (hs c List.mem_cons_self)
    rw [← List.cons_append, h1, h2] at this
    exact this
theorem wds_spaces (k : Nat) (r : List UInt8) (i : Nat) : wds (List.replicate k 32 ++ r) i = wds r (i + k) := by
  induction k generalizing i with
  | zero => simp
  | succ k ih => rw [List.replicate_succ, List.cons_append, wds_sp 32 _ i (by decide), ih, show i + 1 + k = i + (k + 1) by omega]
/-- The texts of the words alone. -/
def txs (l : List UInt8) (i : Nat) : List (List UInt8) := (wds l i).map (·.1)
theorem txs_one (w r : List UInt8) (i : Nat) (hw : Wd w) (hr : ∀ c, r.head? = some c → isSep c = true) : txs (w ++ r) i = w :: txs r (i + w.length) := by
  unfold txs
  rw [wds_one w r i hw hr]
  rfl
theorem txs_spaces (k : Nat) (r : List UInt8) (i : Nat) : txs (List.replicate k 32 ++ r) i = txs r (i + k) := by unfold txs; rw [wds_spaces]
theorem txs_sp (c : UInt8) (r : List UInt8) (i : Nat) (h : isSp c = true) : txs (c :: r) i = txs r (i + 1) := by unfold txs; rw [wds_sp c r i h]
/-- A line: spaces, words with a blank between them, a line feed. -/
def lineB (k : Nat) (w : List UInt8) (ws : List (List UInt8)) : List UInt8 := List.replicate k 32 ++ (w ++ (ws.flatMap fun x => 32 :: x))
theorem head_sep (ws : List (List UInt8)) (r : List UInt8) : ∀ c, ((ws.flatMap fun x => (32 : UInt8) :: x) ++ 10 :: r).head? = some c → isSep c = true := by
  intro c hc
  cases ws with
  | nil => simp at hc; subst hc; decide
  | cons x ws => simp at hc; subst hc; decide
theorem txs_more (ws : List (List UInt8)) (hws : ∀ x ∈ ws, Wd x) (r : List UInt8) : ∀ i, ∃ j, txs ((ws.flatMap fun x => (32 : UInt8) :: x) ++ 10 :: r) i = ws ++ txs r j := by
  induction ws with
  | nil => intro i; exact ⟨i + 1, txs_sp 10 r i (by decide)⟩
  | cons x ws ih =>
    intro i
    obtain ⟨j, hj⟩ := ih (fun y hy => hws y (List.mem_cons_of_mem _ hy)) (i + 1 + x.length)
    refine ⟨j, ?_⟩
    rw [List.flatMap_cons, List.append_assoc, List.cons_append, txs_sp 32 _ i (by decide), txs_one x _ _ (hws x List.mem_cons_self) (head_sep ws r), hj]
    rfl
theorem txs_line (k : Nat) (w : List UInt8) (ws : List (List UInt8)) (hw : Wd w) (hws : ∀ x ∈ ws, Wd x) (r : List UInt8) (i : Nat) : ∃ j, txs (lineB k w ws ++ 10 :: r) i = (w :: ws) ++ txs r j := by
  unfold lineB
  obtain ⟨j, hj⟩ := txs_more ws hws r (i + k + w.length)
  refine ⟨j, ?_⟩
  rw [List.append_assoc, txs_spaces, List.append_assoc, txs_one w _ _ hw (head_sep ws r), hj]
  rfl
/-- A text: lines, each ended by a line feed. -/
def textB (L : List (Nat × List UInt8 × List (List UInt8))) : List UInt8 := L.flatMap fun x => lineB x.1 x.2.1 x.2.2 ++ [10]
theorem txs_text (L : List (Nat × List UInt8 × List (List UInt8))) (h : ∀ x ∈ L, Wd x.2.1 ∧ ∀ y ∈ x.2.2, Wd y) : ∀ i, txs (textB L) i = L.flatMap fun x => x.2.1 :: x.2.2 := by
  induction L with
  | nil => intro i; rfl
  | cons x L ih =>
    intro i
    obtain ⟨j, hj⟩ := txs_line x.1 x.2.1 x.2.2 (h x List.mem_cons_self).1 (h x List.mem_cons_self).2 (textB L) i
    have : textB (x :: L) = lineB x.1 x.2.1 x.2.2 ++ 10 :: textB L := by simp [textB]
    rw [this, hj, ih (fun y hy => h y (List.mem_cons_of_mem _ hy)) j]
    rfl
end Go.Proofs.YthjnchjfmbblfaaGreatDoor.Src
