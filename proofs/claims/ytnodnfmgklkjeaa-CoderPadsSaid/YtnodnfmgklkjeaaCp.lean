/- The plain model of the coder: bytes, carries, shifts. No program is in sight. -/
import Derived.Test.YtnodnfmgklkjeaaM
namespace Go.Proofs.Ytnodnfmgklkjeaa
open Go.RowKit

theorem list_snoc {α : Type} (l : List α) : l = [] ∨ ∃ m x, l = m ++ [x] := by
  rcases List.eq_nil_or_concat l with h | ⟨m, x, h⟩
  · exact Or.inl h
  · exact Or.inr ⟨m, x, by rw [h, List.concat_eq_append]⟩
/-- Bytes as values. -/
def bs (l : List Int) : List Value := l.map (Value.int .u8)
theorem bs_len (l : List Int) : (bs l).length = l.length := by simp [bs]
theorem bs_get (l : List Int) (i : Nat) (h : i < l.length) : (bs l).getD i undef = .int .u8 (l.getD i 0) := by simp [bs, List.getD, h]
theorem bs_app (l m : List Int) : bs (l ++ m) = bs l ++ bs m := by simp [bs]
theorem bs_set (l : List Int) (i : Nat) (x : Int) : (bs l).set i (.int .u8 x) = bs (l.set i x) := by simp [bs, List.map_set]
def Bytes (l : List Int) : Prop := ∀ x ∈ l, 0 ≤ x ∧ x ≤ 255
theorem Bytes.get {l : List Int} (h : Bytes l) (i : Nat) (hi : i < l.length) : 0 ≤ l.getD i 0 ∧ l.getD i 0 ≤ 255 := by
  simp [List.getD, hi]; exact h _ (List.getElem_mem hi)

/-- 1 is added to the number that the bytes are. -/
def carryR : List Int → List Int
  | [] => []
  | x :: xs => if x = 255 then 0 :: carryR xs else (x + 1) :: xs
def carryL (l : List Int) : List Int := (carryR l.reverse).reverse
theorem carryL_nil : carryL [] = [] := rfl
theorem carryL_snoc (l : List Int) (x : Int) : carryL (l ++ [x]) = if x = 255 then carryL l ++ [0] else l ++ [x + 1] := by
  unfold carryL
  simp only [List.reverse_append, List.reverse_cons, List.reverse_nil, List.nil_append, List.cons_append, carryR]
  split <;> simp
theorem carryL_len (l : List Int) : (carryL l).length = l.length := by
  unfold carryL
  have e : l.length = l.reverse.length := by simp
  rw [List.length_reverse, e]
  generalize l.reverse = m
  induction m with
  | nil => rfl
  | cons x xs ih => unfold carryR; split <;> simp [ih]
theorem carryL_bytes {l : List Int} (h : Bytes l) : Bytes (carryL l) := by
  intro x hx
  unfold carryL at hx
  rw [List.mem_reverse] at hx
  have h' : ∀ x ∈ l.reverse, 0 ≤ x ∧ x ≤ 255 := fun x hx => h x (List.mem_reverse.1 hx)
  revert hx h'
  generalize l.reverse = m
  induction m with
  | nil => intro hx; simp [carryR] at hx
  | cons y ys ih =>
    intro hx h'
    have hy := h' y (by simp)
    unfold carryR at hx
    split at hx
    · rcases List.mem_cons.1 hx with rfl | hx
      · omega
      · exact ih hx (fun z hz => h' z (by simp [hz]))
    · rcases List.mem_cons.1 hx with rfl | hx
      · omega
      · exact h' x (by simp [hx])
/-- The state behind the bytes from place k on. -/
theorem carry_step (l : List Int) (k : Nat) (hk : k < l.length) :
    (l.getD k 0 = 255 → carryL (l.take (k + 1)) = carryL (l.take k) ++ [0]) ∧ (l.getD k 0 ≠ 255 → carryL (l.take (k + 1)) = l.take k ++ [l.getD k 0 + 1]) := by
  have e : l.take (k + 1) = l.take k ++ [l.getD k 0] := by
    rw [List.take_succ_eq_append_getElem hk]; simp [List.getD, hk]
  rw [e, carryL_snoc]
  exact ⟨fun h => if_pos h, fun h => if_neg h⟩

theorem take_of_take {l cur : List Int} {j : Nat} (h : cur.take (j + 1) = l.take (j + 1)) : cur.take j = l.take j := by
  have := congrArg (List.take j) h
  rw [List.take_take, List.take_take, Nat.min_eq_left (by omega)] at this
  exact this
theorem drop_set_cons (cur : List Int) (j : Nat) (u : Int) (h : j < cur.length) : (cur.set j u).drop j = u :: cur.drop (j + 1) := by
  rw [List.drop_eq_getElem_cons (by simpa using h)]
  simp [List.drop_set_of_lt]
theorem carry_hit (l cur : List Int) (j : Nat) (hj : j < l.length) (hcl : cur.length = l.length) (hq : cur.take (j + 1) = l.take (j + 1) ∧ carryL l = carryL (l.take (j + 1)) ++ cur.drop (j + 1)) (h : l.getD j 0 = 255) :
    (cur.set j 0).take j = l.take j ∧ carryL l = carryL (l.take j) ++ (cur.set j 0).drop j := by
  refine ⟨by rw [List.take_set_of_le (by omega)]; exact take_of_take hq.1, ?_⟩
  rw [hq.2, (carry_step l j hj).1 h, drop_set_cons _ _ _ (by omega)]
  simp
theorem carry_done (l cur : List Int) (j : Nat) (hj : j < l.length) (hcl : cur.length = l.length) (hq : cur.take (j + 1) = l.take (j + 1) ∧ carryL l = carryL (l.take (j + 1)) ++ cur.drop (j + 1)) (h : l.getD j 0 ≠ 255) :
    cur.set j (l.getD j 0 + 1) = carryL l := by
  rw [hq.2, (carry_step l j hj).2 h, ← take_of_take hq.1]
  conv => lhs; rw [← List.take_append_drop j (cur.set j (l.getD j 0 + 1))]
  rw [List.take_set_of_le (by omega), drop_set_cons _ _ _ (by omega)]
  simp

/-- The shifts: as long as the width is small, a byte goes out. -/
def shN : Nat → Int → Int → List Int → Int × Int × List Int
  | 0, wd, lo, l => (wd, lo, l)
  | k + 1, wd, lo, l => if wd < 16777216 then shN k (wd * 256 % 4294967296) (lo * 256 % 4294967296) (l ++ [lo / 16777216]) else (wd, lo, l)
theorem shN_stop (k : Nat) (wd lo : Int) (l : List Int) (h : 16777216 ≤ wd) : shN k wd lo l = (wd, lo, l) := by
  cases k
  · rfl
  · unfold shN; rw [if_neg (by omega)]

theorem shN_small (k : Nat) (wd lo : Int) (l : List Int) (h : wd < 16777216) : shN (k + 1) wd lo l = shN k (wd * 256 % 4294967296) (lo * 256 % 4294967296) (l ++ [lo / 16777216]) := by
  conv => lhs; unfold shN
  rw [if_pos h]
theorem Bytes.snoc {l : List Int} (h : Bytes l) {x : Int} (h0 : 0 ≤ x) (h1 : x ≤ 255) : Bytes (l ++ [x]) := by
  intro y hy
  rcases List.mem_append.1 hy with hy | hy
  · exact h y hy
  · simp at hy; omega

/-- A bit is coded: the new width and low, and the bytes. -/
def encWd (wd p bit : Int) : Int := if bit = 1 then wd / 4096 * p else wd - wd / 4096 * p
def encLo (wd lo p bit : Int) : Int := if bit = 1 then lo else (lo + wd / 4096 * p) % 4294967296
def encL (wd lo p bit : Int) (l : List Int) : List Int := if bit = 1 then l else if 4294967296 ≤ lo + wd / 4096 * p then carryL l else l
def enc (wd lo : Int) (l : List Int) (bit p : Int) : Int × Int × List Int := shN 3 (encWd wd p bit) (encLo wd lo p bit) (encL wd lo p bit l)

theorem bound_bd (wd p : Int) (h0 : 0 ≤ wd) (h1 : wd ≤ 4294967295) (hp0 : 0 ≤ p) (hp1 : p ≤ 4095) : 0 ≤ wd / 4096 * p ∧ wd / 4096 * p ≤ wd / 4096 * 4095 ∧ wd / 4096 * 4095 ≤ 4293914625 := by
  have a : 0 ≤ wd / 4096 := by omega
  have b := Int.mul_nonneg a hp0
  have c := Int.mul_le_mul_of_nonneg_left hp1 a
  omega
theorem encWd_bd (wd p bit : Int) (h0 : 16777216 ≤ wd) (h1 : wd ≤ 4294967295) (hp0 : 1 ≤ p) (hp1 : p ≤ 4095) : 4096 ≤ encWd wd p bit ∧ encWd wd p bit ≤ 4294967295 := by
  have := bound_bd wd p (by omega) h1 (by omega) hp1
  have a : wd / 4096 * 1 ≤ wd / 4096 * p := Int.mul_le_mul_of_nonneg_left hp0 (by omega)
  unfold encWd
  split <;> omega
end Go.Proofs.Ytnodnfmgklkjeaa
