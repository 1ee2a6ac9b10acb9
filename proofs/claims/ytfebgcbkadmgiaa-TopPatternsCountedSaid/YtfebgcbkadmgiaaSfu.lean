/- Layers 32, 33: patterns counted: plain. -/
import Derived.Test.YtfebgcbkadmgiaaSfs
namespace Go.Proofs.Ytfebgcbkadmgiaa
namespace Suf
set_option linter.unusedVariables false
set_option linter.unusedSimpArgs false

/-- Whether something comes before a pattern; whether its beginning comes before it or is it. -/
def qlo (x S : List Int) : Bool := lt x S
def qhi (x S : List Int) : Bool := !lt S x
structure QOk (q : List Int → List Int → Bool) : Prop where
  nil : ∀ c S, q [] (c :: S) = true
  cons : ∀ x xs c S, q (x :: xs) (c :: S) = if x < c then true else if c < x then false else q xs S
  down : ∀ x y S, lt y x = false → q y S = true → q x S = true
theorem qlo_ok : QOk qlo := ⟨fun c S => rfl, fun x xs c S => lt_cons x c xs S, fun x y S h1 h2 => by
  unfold qlo at h2 ⊢
  rcases lt_tri x y with h | h | h
  · exact lt_trans _ _ _ h h2
  · rw [h]; exact h2
  · rw [h1] at h; cases h⟩
theorem qhi_ok : QOk qhi := ⟨fun c S => by unfold qhi; rw [lt_nil]; rfl, fun x xs c S => by
    unfold qhi
    rw [lt_cons]
    by_cases h1 : x < c
    · rw [if_pos h1, if_neg (by omega), if_pos h1]; rfl
    · rw [if_neg h1]
      by_cases h2 : c < x
      · rw [if_pos h2, if_neg h1, if_pos h2]; rfl
      · rw [if_neg h2, if_neg h2, if_neg h1], fun x y S h1 h2 => by
  unfold qhi at h2 ⊢
  rw [Bool.not_eq_true'] at h2 ⊢
  rcases lt_tri S x with h | h | h
  · exfalso
    rcases lt_tri x y with h3 | h3 | h3
    · rw [lt_trans _ _ _ h h3] at h2; cases h2
    · rw [← h3, h] at h2; cases h2
    · rw [h1] at h3; cases h3
  · rw [h]; exact lt_irrefl x
  · exact lt_asymm h⟩
/-- How many suffixes' beginnings meet q. -/
def cq (q : List Int → List Int → Bool) (b S : List Int) : Nat := (List.range (b.length + 1)).countP fun p => q (pre b S.length p) S
def cnt (b S : List Int) : Nat := (List.range (b.length + 1)).countP fun p => decide (pre b S.length p = S)
theorem countP_split {α : Type} (P Q R : α → Bool) : ∀ l : List α, (∀ x ∈ l, P x = (Q x || R x) ∧ (Q x && R x) = false) → l.countP P = l.countP Q + l.countP R
  | [], _ => rfl
  | a :: l, h => by
    have ih := countP_split P Q R l (fun x hx => h x (List.mem_cons_of_mem _ hx))
    obtain ⟨h1, h2⟩ := h a List.mem_cons_self
    rw [List.countP_cons, List.countP_cons, List.countP_cons, ih, h1]
    cases hq : Q a <;> cases hr : R a <;> simp_all <;> omega
theorem cq_sum (b S : List Int) : cq qhi b S = cq qlo b S + cnt b S := by
  refine countP_split _ _ _ _ fun p _ => ?_
  unfold qhi qlo
  rcases lt_tri (pre b S.length p) S with h | h | h
  · rw [h, lt_asymm h, decide_eq_false (fun e => by rw [e, lt_irrefl] at h; cases h)]; exact ⟨rfl, rfl⟩
  · rw [h, lt_irrefl, decide_eq_true rfl]; exact ⟨rfl, rfl⟩
  · rw [h, lt_asymm h, decide_eq_false (fun e => by rw [e, lt_irrefl] at h; cases h)]; exact ⟨rfl, rfl⟩
/-- Where q falls along a list, it holds up to a place. -/
theorem thr {α : Type} (Q : α → Bool) : ∀ l : List α, (∀ i j (hi : i < l.length) (hj : j < l.length), i < j → Q l[j] = true → Q l[i] = true) → ∀ r (hr : r < l.length), Q l[r] = decide (r < l.countP Q)
  | [], _, r, hr => absurd hr (Nat.not_lt_zero r)
  | a :: l, h, r, hr => by
    have ih := thr Q l (fun i j hi hj hij => h (i + 1) (j + 1) (by simp; omega) (by simp; omega) (by omega))
    rw [List.countP_cons]
    cases r with
    | zero =>
      show Q a = _
      cases hq : Q a with
      | true => simp
      | false =>
        have h0 : l.countP Q = 0 := by
          rw [List.countP_eq_zero]
          intro x hx hqx
          obtain ⟨i, hi, rfl⟩ := List.mem_iff_getElem.1 hx
          have := h 0 (i + 1) (by simp) (by simp; omega) (by omega) hqx
          rw [show (a :: l)[0] = a from rfl, hq] at this
          cases this
        rw [h0]; simp
    | succ r =>
      have hr2 : r < l.length := by simpa using hr
      rw [List.getElem_cons_succ, ih r hr2]
      cases hq : Q a with
      | true => simp
      | false =>
        have h1 : Q l[r] = false := by
          cases h2 : Q l[r] with
          | false => rfl
          | true =>
            have := h 0 (r + 1) (by simp) hr (by omega) h2
            rw [show (a :: l)[0] = a from rfl, hq] at this
            cases this
        rw [ih r hr2] at h1
        have h3 := of_decide_eq_false h1
        simp
        omega
theorem IsSA.thr {b : List Int} {o : List Nat} (h : IsSA b o) {q : List Int → List Int → Bool} (hq : QOk q) (S : List Int) {r : Nat} (hr : r < o.length) : q (pre b S.length o[r]) S = decide (r < cq q b S) := by
  have e : cq q b S = o.countP fun p => q (pre b S.length p) S := (h.perm.countP_eq _).symm
  rw [e]
  refine Suf.thr (fun p => q (pre b S.length p) S) o (fun i j hi hj hij hQ => ?_) r hr
  refine hq.down _ _ _ ?_ hQ
  have h1 := (h.asc hi hj).2 hij
  cases h2 : lt (pre b S.length o[j]) (pre b S.length o[i]) with
  | false => rfl
  | true => rw [lt_asymm (pre_lt h2)] at h1; cases h1
theorem cq_le (q : List Int → List Int → Bool) (b S : List Int) : cq q b S ≤ b.length + 1 := by
  have := List.countP_le_length (p := fun p => q (pre b S.length p) S) (l := List.range (b.length + 1))
  rw [List.length_range] at this
  exact this
/-- The rows ahead of a place, counted. -/
theorem countP_take_thr {α : Type} (Q R : α → Bool) : ∀ (l : List α) (t : Nat), (∀ r (hr : r < l.length), Q l[r] = decide (r < t)) → (l.take t).countP R = l.countP fun x => Q x && R x
  | [], t, _ => by simp
  | a :: l, 0, h => by
    rw [List.take_zero]
    symm
    rw [List.countP_nil, List.countP_eq_zero]
    intro x hx
    obtain ⟨i, hi, rfl⟩ := List.mem_iff_getElem.1 hx
    rw [h i hi]
    simp
  | a :: l, t + 1, h => by
    have h0 := h 0 (by simp)
    rw [show (a :: l)[0] = a from rfl, decide_eq_true (by omega)] at h0
    rw [List.take_succ_cons, List.countP_cons, List.countP_cons, countP_take_thr Q R l t (fun r hr => by
      have := h (r + 1) (by simp; omega)
      rw [List.getElem_cons_succ] at this
      rw [this]
      simp), h0]
    simp
theorem pre_cons {b : List Int} {p : Nat} (h : p < b.length) (L : Nat) : pre b (L + 1) p = b.getD p 0 :: pre b L (p + 1) := by
  unfold pre
  rw [drop_cons h, List.take_succ_cons]
theorem pre_end (b : List Int) (L : Nat) : pre b L b.length = [] := pre_behind b L b.length (Nat.le_refl _)
/-- One byte more in front of the pattern. -/
theorem cq_cons {q : List Int → List Int → Bool} (hq : QOk q) (b S : List Int) (c : Int) :
    cq q b (c :: S) = 1 + b.countP (fun x => decide (x < c)) + (List.range b.length).countP (fun p => decide (b.getD p 0 = c) && q (pre b S.length (p + 1)) S) := by
  unfold cq
  rw [List.range_succ, List.countP_append]
  have e1 : [b.length].countP (fun p => q (pre b (c :: S).length p) (c :: S)) = 1 := by
    rw [List.countP_cons, List.countP_nil, pre_end, hq.nil]; rfl
  rw [e1, ← countP_range b (fun x => decide (x < c))]
  have e2 : (List.range b.length).countP (fun p => q (pre b (c :: S).length p) (c :: S)) = (List.range b.length).countP (fun p => decide (b.getD p 0 < c)) + (List.range b.length).countP (fun p => decide (b.getD p 0 = c) && q (pre b S.length (p + 1)) S) := by
    refine countP_split _ _ _ _ fun p hp => ?_
    have hp2 := List.mem_range.1 hp
    rw [show (c :: S).length = S.length + 1 from rfl, pre_cons hp2, hq.cons]
    by_cases h1 : b.getD p 0 < c
    · rw [if_pos h1, decide_eq_true h1, decide_eq_false (by omega)]; exact ⟨rfl, rfl⟩
    · rw [if_neg h1, decide_eq_false h1]
      by_cases h2 : c < b.getD p 0
      · rw [if_pos h2, decide_eq_false (by omega)]; exact ⟨rfl, rfl⟩
      · rw [if_neg h2, decide_eq_true (by omega)]
        refine ⟨by simp, by simp⟩
  rw [e2]
  omega
/-- .. which is what the transformed string tells. -/
theorem IsSA.step {b : List Int} {o : List Nat} (h : IsSA b o) {q : List Int → List Int → Bool} (hq : QOk q) (S : List Int) (c : Int) :
    cq q b (c :: S) = 1 + (tr b o).countP (fun x => decide (x < c)) + (tr b (o.take (cq q b S))).countP (fun x => decide (x = c)) := by
  rw [cq_cons hq, tr_countP h.perm, countP_tr, countP_take_thr (fun p => q (pre b S.length p) S) _ o _ (fun r hr => h.thr hq S hr), h.perm.countP_eq]
  congr 1
  rw [← countP_zero b.length (fun p => decide (b.getD p 0 = c) && q (pre b S.length (p + 1)) S)]
  refine List.countP_congr fun p hp => ?_
  by_cases h0 : p = 0
  · subst h0; simp
  · obtain ⟨k, rfl⟩ : ∃ k, p = k + 1 := ⟨p - 1, by omega⟩
    simp
    constructor
    · rintro ⟨a, b⟩; exact ⟨b, a⟩
    · rintro ⟨a, b⟩; exact ⟨b, a⟩
theorem cq_nil_lo (b : List Int) : cq qlo b [] = 0 := by
  unfold cq
  rw [List.countP_eq_zero]
  intro x _
  unfold qlo
  rw [lt_nil]
  simp
theorem cq_nil_hi (b : List Int) : cq qhi b [] = b.length + 1 := by
  unfold cq
  have : (List.range (b.length + 1)).countP (fun p => qhi (pre b ([] : List Int).length p) []) = (List.range (b.length + 1)).length := by
    rw [List.countP_eq_length]
    intro x _
    unfold qhi
    rw [List.length_nil, show pre b 0 x = [] by simp [pre]]
    rfl
  rw [this, List.length_range]
theorem cnt_app_zero {b S : List Int} (h : cnt b S = 0) : ∀ T : List Int, cnt b (T ++ S) = 0
  | [] => h
  | c :: T => by
    have ih := cnt_app_zero h T
    unfold cnt at ih ⊢
    rw [List.countP_eq_zero] at ih ⊢
    intro p hp he
    have he2 := of_decide_eq_true he
    have hp2 := List.mem_range.1 hp
    by_cases hpn : p = b.length
    · rw [hpn, pre_end] at he2; cases he2
    · rw [show (c :: T ++ S).length = (T ++ S).length + 1 by simp, pre_cons (by omega), List.cons_append] at he2
      exact ih (p + 1) (List.mem_range.2 (by omega)) (decide_eq_true (List.cons.inj he2).2)
theorem cnt_pre (b S : List Int) (p : Nat) : pre b S.length p = S ↔ S <+: b.drop p := by
  unfold pre
  rw [List.prefix_iff_eq_take]
  exact eq_comm
end Suf
end Go.Proofs.Ytfebgcbkadmgiaa
