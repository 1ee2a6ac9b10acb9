/- The plain law of reading numbers (layer 2). -/
import Derived.Test.YthjnchjfmbblfaaGreatDoorJg
import Derived.Test.YthjnchjfmbblfaaGreatDoorUx
import Derived.Test.YthjnchjfmbblfaaGreatDoorMz
import Derived.Outline
namespace Go.Proofs.YthjnchjfmbblfaaGreatDoor
open Go.RowKit
set_option linter.unusedVariables false
/-- How many one bits a byte begins with. -/
def ones (x : Int) : Nat := if x < 128 then 0 else if x < 192 then 1 else if x < 224 then 2 else if x < 240 then 3 else if x < 248 then 4 else if x < 252 then 5 else if x < 254 then 6 else if x < 255 then 7 else 8
theorem ones_8 (x : Int) : ones x ≤ 8 := by
  unfold ones
  repeat' split
  all_goals omega
theorem ones_lz : (List.range 256).all (fun x => decide ((8 - (Lib.bitLen (255 - x) : Int)) = (ones (x : Int) : Int))) = true := by decide +kernel
theorem ones_bl (x : Int) (h0 : 0 ≤ x) (h1 : x ≤ 255) : 8 - (Lib.bitLen (255 - x).toNat : Int) = (ones x : Int) := by
  obtain ⟨n, rfl⟩ := Int.eq_ofNat_of_zero_le h0
  have h := List.all_eq_true.1 ones_lz n (by simp; omega)
  have e : (255 - (n : Int)).toNat = 255 - n := by omega
  rw [e]
  exact of_decide_eq_true h
/-- The number that a byte begins. -/
def first (x : Int) (k : Nat) : Int := x % 2 ^ (7 - k)
def grow (a : Int) (l : List Int) : Int := l.foldl (fun a b => 256 * a + b) a
theorem grow_snoc (a : Int) (l : List Int) (b : Int) : grow a (l ++ [b]) = 256 * grow a l + b := by simp [grow]
theorem grow_bd (a : Int) (l : List Int) (hl : Bytes l) (M : Int) (h0 : 0 ≤ a) (h1 : a < M) : 0 ≤ grow a l ∧ grow a l < M * 256 ^ l.length := by
  induction l generalizing a M with
  | nil => simp [grow]; omega
  | cons b l ih =>
    have hb := hl b (by simp)
    have := ih (256 * a + b) (fun x hx => hl x (by simp [hx])) (M * 256) (by omega) (by omega)
    rw [List.length_cons, Int.pow_succ, Int.mul_comm (256 ^ _) 256, ← Int.mul_assoc]
    exact this
/-- What is read: the error, the number, the rest. -/
def wrd : List Int → Int × Int × List Int
  | [] => (9, 0, [])
  | x :: r =>
    if 7 < ones x then (3, 0, []) else if r.length < ones x then (9, 0, []) else
    let n := grow (first x (ones x)) (r.take (ones x))
    if 9007199254740991 < n ∨ fur n ≠ ones x then (3, 0, []) else (0, n, r.drop (ones x))
theorem first_and : (List.range 256).all (fun x => (List.range 8).all fun k => decide (ones (x : Int) ≠ k ∨ bits .and .u8 (x : Int) (127 / 2 ^ k) = first x k)) = true := by decide +kernel
theorem first_bits (x : Int) (h0 : 0 ≤ x) (h1 : x ≤ 255) (k : Nat) (hk : ones x = k) (h7 : k ≤ 7) : bits .and .u8 x (127 / 2 ^ k) = first x k := by
  obtain ⟨n, rfl⟩ := Int.eq_ofNat_of_zero_le h0
  have h := List.all_eq_true.1 (List.all_eq_true.1 first_and n (by simp; omega)) k (by simp; omega)
  rcases of_decide_eq_true h with h | h
  · exact absurd hk h
  · exact h
theorem first_bd (x : Int) (k : Nat) : 0 ≤ first x k ∧ first x k < 2 ^ (7 - k) := by
  have hp : (0 : Int) < 2 ^ (7 - k) := Int.pow_pos (by decide)
  exact ⟨Int.emod_nonneg _ (by omega), Int.emod_lt_of_pos _ hp⟩
theorem grow_lt (x : Int) (k : Nat) (h7 : k ≤ 7) (l : List Int) (hl : Bytes l) (m : Nat) (hm : 7 - k + 8 * l.length ≤ m) : 0 ≤ grow (first x k) l ∧ grow (first x k) l < 2 ^ m := by
  have h1 := first_bd x k
  have h2 := grow_bd (first x k) l hl (2 ^ (7 - k)) h1.1 h1.2
  refine ⟨h2.1, Int.lt_of_lt_of_le h2.2 ?_⟩
  have e : (256 : Int) ^ l.length = 2 ^ (8 * l.length) := by rw [Int.pow_mul]; rfl
  rw [e, ← Int.pow_add]
  exact_mod_cast Nat.pow_le_pow_right (by decide : 0 < 2) hm
theorem grow_48 (x : Int) (k : Nat) (h7 : k ≤ 7) (l : List Int) (hl : Bytes l) (hj : l.length < k) : 0 ≤ grow (first x k) l ∧ grow (first x k) l < 281474976710656 := by
  have h := grow_lt x k h7 l hl 48 (by omega)
  have e : (2 : Int) ^ 48 = 281474976710656 := by decide
  rw [e] at h
  exact h
theorem grow_56 (x : Int) (k : Nat) (h7 : k ≤ 7) (l : List Int) (hl : Bytes l) (hj : l.length ≤ k) : 0 ≤ grow (first x k) l ∧ grow (first x k) l < 72057594037927936 := by
  have h := grow_lt x k h7 l hl 56 (by omega)
  have e : (2 : Int) ^ 56 = 72057594037927936 := by decide
  rw [e] at h
  exact h
theorem ofInt64 (a : Int) (h0 : 0 ≤ a) (h1 : a < 9223372036854775808) : (BitVec.ofInt 64 a).toNat = a.toNat := by
  rw [BitVec.toNat_ofInt]
  have : a % ((2 ^ 64 : Nat) : Int) = a := Int.emod_eq_of_lt h0 (by simp; omega)
  rw [this]
theorem or_grow (g y : Int) (g0 : 0 ≤ g) (g1 : g < 281474976710656) (y0 : 0 ≤ y) (y1 : y ≤ 255) : bits .or .i64 (g * 256) y = 256 * g + y := by
  show IntKind.i64.wrap (((BitVec.ofInt 64 (g * 256)) ||| (BitVec.ofInt 64 y)).toNat : Int) = _
  rw [BitVec.toNat_or, ofInt64 _ (by omega) (by omega), ofInt64 y y0 (by omega)]
  have h := Nat.two_pow_add_eq_or_of_lt (i := 8) (b := y.toNat) (by omega) g.toNat
  have e : (g * 256).toNat = 2 ^ 8 * g.toNat := by omega
  rw [e, ← h]
  have e2 : ((2 ^ 8 * g.toNat + y.toNat : Nat) : Int) = 256 * g + y := by omega
  rw [e2]
  exact IntWalk.i64_in _ (by omega)
theorem wrd_bad8 (x : Int) (r : List Int) (h : 7 < ones x) : wrd (x :: r) = (3, 0, []) := by simp [wrd, h]
theorem wrd_torn (x : Int) (r : List Int) (h7 : ones x ≤ 7) (h : r.length < ones x) : wrd (x :: r) = (9, 0, []) := by
  simp [wrd, h]; omega
theorem wrd_cons (x : Int) (r : List Int) : wrd (x :: r) = if 7 < ones x then (3, 0, []) else if r.length < ones x then (9, 0, []) else
    if 9007199254740991 < grow (first x (ones x)) (r.take (ones x)) ∨ fur (grow (first x (ones x)) (r.take (ones x))) ≠ ones x then (3, 0, []) else (0, grow (first x (ones x)) (r.take (ones x)), r.drop (ones x)) := rfl
theorem wrd_form (x : Int) (r : List Int) (k : Nat) (hk : ones x = k) (h7 : k ≤ 7) (hr : k ≤ r.length) (n : Int) (hn : grow (first x k) (r.take k) = n) (h : 9007199254740991 < n ∨ fur n ≠ k) : wrd (x :: r) = (3, 0, []) := by
  rw [wrd_cons, hk, if_neg (by omega), if_neg (by omega), hn]
  exact if_pos h
theorem wrd_good (x : Int) (r : List Int) (k : Nat) (hk : ones x = k) (h7 : k ≤ 7) (hr : k ≤ r.length) (n : Int) (hn : grow (first x k) (r.take k) = n) (h : ¬ (9007199254740991 < n ∨ fur n ≠ k)) : wrd (x :: r) = (0, n, r.drop k) := by
  rw [wrd_cons, hk, if_neg (by omega), if_neg (by omega), hn]
  exact if_neg h
theorem wrd_num (S : List Int) (hb : Bytes S) : (wrd S).1 = 0 → 0 ≤ (wrd S).2.1 ∧ (wrd S).2.1 ≤ 9007199254740991 := by
  match S, hb with
  | [], _ => intro h; cases h
  | x :: r, hb =>
    rw [wrd_cons]
    intro h
    by_cases h1 : 7 < ones x
    · rw [if_pos h1] at h; cases h
    · rw [if_neg h1] at h ⊢
      by_cases h2 : r.length < ones x
      · rw [if_pos h2] at h; cases h
      · rw [if_neg h2] at h ⊢
        by_cases h3 : 9007199254740991 < grow (first x (ones x)) (r.take (ones x)) ∨ fur (grow (first x (ones x)) (r.take (ones x))) ≠ ones x
        · rw [if_pos h3] at h; cases h
        · rw [if_neg h3]
          exact ⟨(grow_56 x (ones x) (by omega) _ (fun z hz => hb z (List.mem_cons_of_mem _ (List.mem_of_mem_take hz))) (List.length_take_le _ _)).1, by show grow _ _ ≤ _; omega⟩
theorem wrd_sub (S : List Int) : ∃ k, (wrd S).2.2 = S.drop k := by
  match S with
  | [] => exact ⟨0, rfl⟩
  | x :: r =>
    rw [wrd_cons]
    split
    · exact ⟨(x :: r).length, by simp⟩
    · split
      · exact ⟨(x :: r).length, by simp⟩
      · split
        · exact ⟨(x :: r).length, by simp⟩
        · exact ⟨ones x + 1, rfl⟩
end Go.Proofs.YthjnchjfmbblfaaGreatDoor

/- The reference of layer 2: power, number, Size. -/
namespace Go.Proofs.YthjnchjfmbblfaaGreatDoor
open Go.RowKit
set_option linter.unusedVariables false
attribute [local go_sem ↓] Go.wp_at_zero Go.wp_at_succ

theorem pow_62 (i : Nat) (h : i ≤ 62) : 1 ≤ (2 : Int) ^ i ∧ (2 : Int) ^ i ≤ 4611686018427387904 := by
  have h1 : 0 < (2 : Int) ^ i := Int.pow_pos (by decide)
  have h2 : (2 : Int) ^ i ≤ 2 ^ 62 := by exact_mod_cast Nat.pow_le_pow_right (by decide : 0 < 2) h
  have e : (2 : Int) ^ 62 = 4611686018427387904 := by decide
  omega
end Go.Proofs.YthjnchjfmbblfaaGreatDoor
