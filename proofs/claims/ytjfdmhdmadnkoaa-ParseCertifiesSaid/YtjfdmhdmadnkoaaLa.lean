/- Tokens of layer 35, plainly: form, errors, bytes, prices, bits. -/
import Derived.Test.YtjfdmhdmadnkoaaBm
import Derived.Test.YtjfdmhdmadnkoaaP
namespace Go.Proofs.Ytjfdmhdmadnkoaa
open Go.RowKit
set_option linter.unusedVariables false

/-- The cells of a token: length, distance, byte. -/
def tkc (x : Int × Int × Int) : List Value := [.int .i64 x.1, .int .i64 x.2.1, .int .u8 x.2.2]
theorem tkc_len (x : Int × Int × Int) : (tkc x).length = 3 := rfl
def tkv (x : Int × Int × Int) : Value := .agg #[.int .i64 x.1, .int .i64 x.2.1, .int .u8 x.2.2]
def Toks (w : World) (v : Value) (l : List (Int × Int × Int)) : Prop := Rd w 3 v l.length (l.flatMap tkc)
def OkT (x : Int × Int × Int) : Prop := (-9223372036854775808 ≤ x.1 ∧ x.1 ≤ 9223372036854775807) ∧ (-9223372036854775808 ≤ x.2.1 ∧ x.2.1 ≤ 9223372036854775807) ∧ 0 ≤ x.2.2 ∧ x.2.2 ≤ 255
def OkTs (l : List (Int × Int × Int)) : Prop := ∀ x ∈ l, OkT x
theorem rd3_at {α : Type} {E : α → List Value} (hE : ∀ x, (E x).length = 3) {w : World} {b off n cap : Nat} {l : List α} (h : Rd w 3 (.slice (some ⟨b, off, none⟩) n cap) n (l.flatMap E)) (k : Nat) (x : α) (hx : l[k]? = some x) (u0 u1 u2 : Value) (hu : E x = [u0, u1, u2]) :
    w.cell? ⟨b, off + k * 3, none⟩ = some u0 ∧ w.cell? ⟨b, off + k * 3 + 1, none⟩ = some u1 ∧ w.cell? ⟨b, off + k * 3 + 2, none⟩ = some u2 := by
  have hk : k < l.length := (List.getElem?_eq_some_iff.1 hx).1
  have hl := flat_len E 3 hE l
  have hn : l.length = n := by have := h.len; omega
  obtain ⟨b', off', e, -, hc⟩ := h.cells (by omega)
  simp only [Option.some.injEq, Addr.mk.injEq, and_true] at e
  obtain ⟨rfl, rfl⟩ := e
  have g0 := flat_get E 3 hE l k 0 x hx (by decide)
  have g1 := flat_get E 3 hE l k 1 x hx (by decide)
  have g2 := flat_get E 3 hE l k 2 x hx (by decide)
  have c0 := hc (k * 3) (by omega)
  have c1 := hc (k * 3 + 1) (by omega)
  have c2 := hc (k * 3 + 2) (by omega)
  rw [hu] at g0 g1 g2
  rw [Nat.add_zero] at g0
  rw [show (l.flatMap E).getD (k * 3) undef = u0 from getD_val g0] at c0
  rw [show (l.flatMap E).getD (k * 3 + 1) undef = u1 from getD_val g1] at c1
  rw [show (l.flatMap E).getD (k * 3 + 2) undef = u2 from getD_val g2] at c2
  exact ⟨c0, by rw [← c1, Nat.add_assoc], by rw [← c2, Nat.add_assoc]⟩
theorem drop_at {α : Type} {l : List α} {k : Nat} {x : α} (h : l[k]? = some x) : l.drop k = x :: l.drop (k + 1) := by
  obtain ⟨hk, rfl⟩ := List.getElem?_eq_some_iff.1 h
  exact List.drop_eq_getElem_cons hk
theorem at_lt {α : Type} (l : List α) {k : Nat} (h : k < l.length) : ∃ x, l[k]? = some x ∧ x ∈ l := ⟨l[k], List.getElem?_eq_getElem h, List.getElem_mem h⟩
theorem take_at {α : Type} {l : List α} {k : Nat} {x : α} (h : l[k]? = some x) : l.take (k + 1) = l.take k ++ [x] := by
  obtain ⟨hk, rfl⟩ := List.getElem?_eq_some_iff.1 h
  rw [List.take_succ_eq_append_getElem hk]

/-- Neither a literal nor a copy. -/
def Wr (t : Int × Int × Int) : Prop := if t.1 = 0 then t.2.1 ≠ 0 else t.2.2 ≠ 0 ∨ t.1 < 2 ∨ 255 < t.1 ∨ t.2.1 < 1 ∨ 4096 < t.2.1
instance (t : Int × Int × Int) : Decidable (Wr t) := by unfold Wr; infer_instance
def szT (t : Int × Int × Int) : Int := if t.1 < 1 then 1 else t.1
def ckT (t : Int × Int × Int) (n : Int) : Int := if Wr t then 3 else if n < t.2.1 then 2 else if 65536 < n + szT t then 5 else 0
def ckL : Int → List (Int × Int × Int) → Int
  | _, [] => 0
  | n, t :: r => if ckT t n ≠ 0 then ckT t n else ckL (n + szT t) r
def chkF (l : List (Int × Int × Int)) : Int := if 65536 < l.length then 6 else ckL 0 l
theorem szT_pos (t : Int × Int × Int) : 1 ≤ szT t := by unfold szT; split <;> omega
theorem szT_le {t : Int × Int × Int} (h : ¬ Wr t) : szT t ≤ 255 := by
  unfold Wr at h
  unfold szT
  split at h <;> split <;> omega
theorem ckT_ok {t : Int × Int × Int} {n : Int} (h : ckT t n = 0) : ¬ Wr t ∧ t.2.1 ≤ n ∧ n + szT t ≤ 65536 := by
  unfold ckT at h
  split at h
  · cases h
  · next h1 =>
    split at h
    · cases h
    · next h2 =>
      split at h
      · cases h
      · next h3 => exact ⟨h1, by omega, by omega⟩
theorem ok_ckT {t : Int × Int × Int} {n : Int} (h1 : ¬ Wr t) (h2 : t.2.1 ≤ n) (h3 : n + szT t ≤ 65536) : ckT t n = 0 := by
  unfold ckT
  rw [if_neg h1, if_neg (by omega), if_neg (by omega)]
theorem ckT_bd (t : Int × Int × Int) (n : Int) : 0 ≤ ckT t n ∧ ckT t n ≤ 5 := by
  unfold ckT
  (repeat' split) <;> omega
/-- The bytes. -/
def cpy (d : Nat) : Nat → List Int → List Int
  | 0, out => out
  | k + 1, out => cpy d k (out ++ [out.getD (out.length - d) 0])
def ex1 (out : List Int) (t : Int × Int × Int) : List Int := if t.1 = 0 then out ++ [t.2.2] else cpy t.2.1.toNat t.1.toNat out
def exF : List Int → List (Int × Int × Int) → List Int
  | out, [] => out
  | out, t :: r => exF (ex1 out t) r
theorem cpy_len (d k : Nat) (out : List Int) : (cpy d k out).length = out.length + k := by
  induction k generalizing out with
  | zero => rfl
  | succ k ih => rw [cpy, ih]; simp; omega
theorem ex1_len (out : List Int) (t : Int × Int × Int) (h : ¬ Wr t) : ((ex1 out t).length : Int) = out.length + szT t := by
  unfold ex1
  unfold Wr at h
  unfold szT
  split at h
  · next e => rw [if_pos e, if_pos (by omega)]; simp
  · next e => rw [if_neg e, if_neg (by omega), cpy_len]; omega
def expF (l : List (Int × Int × Int)) : Int × List Int := if chkF l ≠ 0 then (chkF l, []) else (0, exF [] l)
/-- The price. -/
def gaB (n : Int) : Int := 2 * (Lib.bitLen n.toNat : Int) - 1
def prc (t : Int × Int × Int) : Int := if Wr t then 0 else if t.1 = 0 then 9 else 1 + gaB (t.1 - 1) + gaB t.2.1
/-- The bits. -/
def tb (t : Int × Int × Int) : List Int := if t.1 = 0 then low t.2.2 9 else 1 :: (gam (t.1 - 1) ++ gam t.2.1)
theorem tb_01 (t : Int × Int × Int) : Bits01 (tb t) := by
  unfold tb
  split
  · exact low_01 _ _
  · intro x hx
    rcases List.mem_cons.1 hx with rfl | hx
    · exact Or.inr rfl
    · rcases List.mem_append.1 hx with h | h
      · exact gam_01 _ x h
      · exact gam_01 _ x h
theorem bl_bd (n : Int) (k : Nat) (h0 : 1 ≤ n) (h1 : n < 2 ^ k) (hk : k ≤ 31) : ∃ m, Lib.bitLen n.toNat = m + 1 ∧ m < k := by
  have h31 : n ≤ 2147483647 := by
    have e : (2 : Int) ^ k ≤ 2 ^ 31 := by
      have := Nat.pow_le_pow_right (show 0 < 2 by decide) hk
      have h3 : ((2 ^ k : Nat) : Int) ≤ ((2 ^ 31 : Nat) : Int) := Int.ofNat_le.mpr this
      rw [Int.natCast_pow, Int.natCast_pow] at h3
      exact h3
    omega
  obtain ⟨m, hm, -⟩ := len_ex n h0 h31
  refine ⟨m, hm, ?_⟩
  obtain ⟨c1, c2⟩ := bitLen_int n h0 h31 m hm
  rcases Nat.lt_or_ge m k with h | h
  · exact h
  · exfalso
    have e : (2 : Int) ^ k ≤ 2 ^ m := by
      have := Nat.pow_le_pow_right (show 0 < 2 by decide) h
      have h3 : ((2 ^ k : Nat) : Int) ≤ ((2 ^ m : Nat) : Int) := Int.ofNat_le.mpr this
      rw [Int.natCast_pow, Int.natCast_pow] at h3
      exact h3
    omega
theorem Wr_copy {t : Int × Int × Int} (h : ¬ Wr t) (h0 : t.1 ≠ 0) : t.2.2 = 0 ∧ 2 ≤ t.1 ∧ t.1 ≤ 255 ∧ 1 ≤ t.2.1 ∧ t.2.1 ≤ 4096 := by
  unfold Wr at h
  rw [if_neg h0] at h
  omega
theorem Wr_lit {t : Int × Int × Int} (h : ¬ Wr t) (h0 : t.1 = 0) : t.2.1 = 0 := by
  unfold Wr at h
  rw [if_pos h0] at h
  omega
theorem gam_gaB (n : Int) (h0 : 1 ≤ n) (h1 : n ≤ 2147483647) : ((gam n).length : Int) = gaB n := by
  obtain ⟨m, hm, -⟩ := len_ex n h0 h1
  rw [gam_len n m hm]
  unfold gaB
  rw [hm]
  omega
/-- A token's code has as many bits as its price says. -/
theorem tb_len (t : Int × Int × Int) (h : ¬ Wr t) : ((tb t).length : Int) = prc t := by
  unfold tb prc
  rw [if_neg h]
  by_cases h0 : t.1 = 0
  · rw [if_pos h0, if_pos h0, low_len]; rfl
  · rw [if_neg h0, if_neg h0]
    obtain ⟨a1, a2, a3, a4, a5⟩ := Wr_copy h h0
    have e1 := gam_gaB (t.1 - 1) (by omega) (by omega)
    have e2 := gam_gaB t.2.1 (by omega) (by omega)
    rw [List.length_cons, List.length_append]
    omega
theorem gaB_bd (n : Int) (k : Nat) (h0 : 1 ≤ n) (h1 : n < 2 ^ k) (hk : k ≤ 31) : 1 ≤ gaB n ∧ gaB n ≤ 2 * k - 1 := by
  obtain ⟨m, hm, hl⟩ := bl_bd n k h0 h1 hk
  unfold gaB
  rw [hm]
  omega
theorem prc_bd (t : Int × Int × Int) : 0 ≤ prc t ∧ prc t ≤ 41 := by
  unfold prc
  by_cases h : Wr t
  · rw [if_pos h]; omega
  · rw [if_neg h]
    by_cases h0 : t.1 = 0
    · rw [if_pos h0]; omega
    · rw [if_neg h0]
      obtain ⟨a1, a2, a3, a4, a5⟩ := Wr_copy h h0
      have e1 := gaB_bd (t.1 - 1) 8 (by omega) (by omega) (by decide)
      have e2 := gaB_bd t.2.1 13 (by omega) (by omega) (by decide)
      omega
/-- The sum of the prices. -/
def sumP (l : List (Int × Int × Int)) : Int := (l.map prc).sum
theorem sumP_cons (t : Int × Int × Int) (l : List (Int × Int × Int)) : sumP (t :: l) = prc t + sumP l := by simp [sumP]
theorem sumP_snoc (t : Int × Int × Int) (l : List (Int × Int × Int)) : sumP (l ++ [t]) = sumP l + prc t := by simp [sumP]
theorem sumP_bd (l : List (Int × Int × Int)) : 0 ≤ sumP l ∧ sumP l ≤ 41 * l.length := by
  induction l with
  | nil => simp [sumP]
  | cons t l ih =>
    have := prc_bd t
    rw [sumP_cons, List.length_cons]
    omega
def tbs (l : List (Int × Int × Int)) : List Int := l.flatMap tb
theorem tbs_snoc (t : Int × Int × Int) (l : List (Int × Int × Int)) : tbs (l ++ [t]) = tbs l ++ tb t := by simp [tbs]
theorem tbs_cons (t : Int × Int × Int) (l : List (Int × Int × Int)) : tbs (t :: l) = tb t ++ tbs l := by simp [tbs]
theorem tbs_01 (l : List (Int × Int × Int)) : Bits01 (tbs l) := by
  intro x hx
  obtain ⟨n, _, h⟩ := List.mem_flatMap.1 hx
  exact tb_01 _ x h
theorem tbs_len (l : List (Int × Int × Int)) (h : ∀ t ∈ l, ¬ Wr t) : ((tbs l).length : Int) = sumP l := by
  induction l with
  | nil => rfl
  | cons t l ih =>
    rw [tbs_cons, sumP_cons, List.length_append, ← ih (fun x hx => h x (by simp [hx])), ← tb_len t (h t (by simp))]
    omega
/-- The encoding. -/
def encF (l : List (Int × Int × Int)) : Int × List Int := if chkF l ≠ 0 then (chkF l, []) else if 524288 < sumP l then (5, []) else (0, pshs [] 0 (tbs l))
theorem ckL_right {n : Int} {l : List (Int × Int × Int)} (h : ckL n l = 0) : ∀ t ∈ l, ¬ Wr t := by
  induction l generalizing n with
  | nil => intro t ht; cases ht
  | cons t l ih =>
    rw [ckL] at h
    split at h
    · next h1 => exact absurd h h1
    · next h1 =>
      intro x hx
      rcases List.mem_cons.1 hx with rfl | hx
      · exact (ckT_ok (Classical.not_not.1 h1)).1
      · exact ih h x hx
end Go.Proofs.Ytjfdmhdmadnkoaa
