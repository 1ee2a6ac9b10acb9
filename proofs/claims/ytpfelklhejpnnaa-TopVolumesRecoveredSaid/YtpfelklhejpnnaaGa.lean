/- Layer 53: the field of 256 elements: plain. -/
import Derived.KernelRfl
namespace Go.Proofs.Ytpfelklhejpnnaa
namespace Gf
set_option linter.unusedVariables false

/-- The powers of 2, and the logarithms, written one behind the other. -/
def powT : Nat := 0x18e47add86c361b83cfe9fa7db0582c160b8bcbebfbf3f7f5f47a3d90482412098a45ac562b9bc3eff9f279b259a251a653a7dde070381c0e078dc86432198241ae57a5dc6e3795c46231964babdbe3fff1f67bb3d7e5fc7e3f91c663bfd1e673b7d5e472399249aa55a452299a4da8542a158442219e4fa9da6db85c2e1785cc663397c5ec763b93c7edf87c3e1f81ce67bdd068341a0d884422118643afd9e271b65ba3dfe1fe7fb1d66bbbd3e7fdf0783c1e0f89ca65bc5e2f99c261be5fa1de6fb9d269ba5da05028140a058c46239fc1ee77b5d46a35944a259c4e279dc06030180c06038fc9ea75b45a2d984c261387cde8743a1d8040201008040201
def logT : Nat := 0xaf5850a8eaf4d674e8ade7e6e9d5ae4fd72c757aeb16f50b51a0a99cb05f59cb5a3eccbbb18660fbaa559d29523ba16cf66f0c7fec4917c476a47bb7d8432d1fa2416d4753393c849e5d2a14abd356f261befcdcb2978790cdcfbc955bd13f372e892023d99244117cb4b8267799a5e318fec531edde4a670d63808cf7c0700757a7f373ace5d44e2b79150a9f9b5eca3dba85fa54283a6b6e7e48c3a3b6421e404638835c13d2f1bddb968fce94d03688229110b32598e2fd30dd66628bbf06a672e44d78099ac9b9f9276a7dc2b51d458212f0da8e9335210f24e12f658a05714c08c8f869c11c81ef8d340ee064044bc7681bee33df03c61a320219010000
def pw (i : Nat) : Nat := (powT >>> (8 * i)) % 256
def lg (a : Nat) : Nat := (logT >>> (8 * a)) % 256
/-- Twice an element. -/
def xt (n : Nat) : Nat := if 255 < 2 * n then (2 * n) ^^^ 285 else 2 * n
def allB (n : Nat) (p : Nat → Bool) : Bool := (List.range n).all p
theorem of_allB {n : Nat} {p : Nat → Bool} (h : allB n p = true) (i : Nat) (hi : i < n) : p i = true := List.all_eq_true.1 h i (List.mem_range.2 hi)
theorem pw_zero : pw 0 = 1 := by rfl
theorem pw_succ_b : allB 255 (fun i => pw (i + 1) == xt (pw i)) = true := by kernel_rfl
theorem lg_pw_b : allB 255 (fun i => lg (pw i) == i) = true := by kernel_rfl
theorem pw_lg_b : allB 255 (fun a => pw (lg (a + 1)) == a + 1 && decide (lg (a + 1) < 255)) = true := by kernel_rfl
theorem pw_255 : pw 255 = 1 := by rfl
theorem lg_zero : lg 0 = 0 := by rfl
theorem pw_succ {i : Nat} (h : i < 255) : pw (i + 1) = xt (pw i) := by simpa using of_allB pw_succ_b i h
theorem lg_pw {i : Nat} (h : i < 255) : lg (pw i) = i := by simpa using of_allB lg_pw_b i h
theorem pw_lg {a : Nat} (h0 : 0 < a) (h : a < 256) : pw (lg a) = a := by
  have := of_allB pw_lg_b (a - 1) (by omega)
  rw [Nat.sub_add_cancel h0] at this
  simp at this
  exact this.1
theorem lg_lt {a : Nat} (h : a < 256) : lg a < 255 := by
  by_cases h0 : a = 0
  · rw [h0, lg_zero]; omega
  · have := of_allB pw_lg_b (a - 1) (by omega)
    rw [Nat.sub_add_cancel (by omega)] at this
    simp at this
    exact this.2
theorem pw_lt (i : Nat) : pw i < 256 := Nat.mod_lt _ (by omega)
theorem pw_pos {i : Nat} (h : i < 255) : 0 < pw i := by
  rcases Nat.eq_zero_or_pos (pw i) with e | e
  · have h1 := lg_pw h
    rw [e, lg_zero] at h1
    rw [← h1, pw_zero] at e
    cases e
  · exact e
theorem lg_inj {a b : Nat} (ha0 : 0 < a) (ha : a < 256) (hb0 : 0 < b) (hb : b < 256) (h : lg a = lg b) : a = b := by
  rw [← pw_lg ha0 ha, ← pw_lg hb0 hb, h]
/-- The product. -/
def mul (a b : Nat) : Nat := if a = 0 ∨ b = 0 then 0 else pw ((lg a + lg b) % 255)
def inv (a : Nat) : Nat := pw ((255 - lg a) % 255)
theorem mul_comm (a b : Nat) : mul a b = mul b a := by
  unfold mul
  by_cases h : a = 0 ∨ b = 0
  · rw [if_pos h, if_pos (by omega)]
  · rw [if_neg h, if_neg (by omega), Nat.add_comm]
theorem mul_lt (a b : Nat) : mul a b < 256 := by
  unfold mul
  split
  · omega
  · exact pw_lt _
theorem zero_mul (b : Nat) : mul 0 b = 0 := if_pos (Or.inl rfl)
theorem mul_zero (b : Nat) : mul b 0 = 0 := if_pos (Or.inr rfl)
theorem one_mul {b : Nat} (h : b < 256) : mul 1 b = b := by
  unfold mul
  by_cases h0 : b = 0
  · rw [if_pos (Or.inr h0), h0]
  · rw [if_neg (by omega), show lg 1 = 0 from by rfl, Nat.zero_add, Nat.mod_eq_of_lt (lg_lt h), pw_lg (by omega) h]
theorem mul_inv {a : Nat} (h0 : 0 < a) (h : a < 256) : mul a (inv a) = 1 := by
  have hl := lg_lt h
  have hi : (255 - lg a) % 255 < 255 := Nat.mod_lt _ (by omega)
  unfold mul inv
  rw [if_neg (by have := pw_pos hi; omega), lg_pw hi]
  by_cases h1 : lg a = 0
  · rw [h1]; rfl
  · rw [Nat.mod_eq_of_lt (by omega : 255 - lg a < 255), show lg a + (255 - lg a) = 255 by omega]; rfl
theorem inv_pos {a : Nat} : 0 < inv a := pw_pos (Nat.mod_lt _ (by omega))
theorem inv_lt (a : Nat) : inv a < 256 := pw_lt _

/-! ### Doubling is linear. -/
theorem xt_eq {n : Nat} (h : n < 256) : xt n = (n <<< 1) ^^^ ((n >>> 7) * 285) := by
  unfold xt
  rw [Nat.shiftLeft_eq, Nat.shiftRight_eq_div_pow]
  by_cases h1 : 255 < 2 * n
  · rw [if_pos h1, show n / 2 ^ 7 = 1 by omega, Nat.one_mul, Nat.mul_comm]
  · rw [if_neg h1, show n / 2 ^ 7 = 0 by omega, Nat.zero_mul, Nat.xor_zero, Nat.mul_comm]
theorem xor_lt {x y : Nat} (hx : x < 256) (hy : y < 256) : x ^^^ y < 256 := Nat.xor_lt_two_pow (n := 8) hx hy
theorem bit_285 : ∀ p, p < 2 → ∀ q, q < 2 → (p ^^^ q) * 285 = (p * 285) ^^^ (q * 285) := by decide
theorem xor4 (a b c d : Nat) : (a ^^^ b) ^^^ (c ^^^ d) = (a ^^^ c) ^^^ (b ^^^ d) := by
  rw [Nat.xor_assoc, Nat.xor_assoc, ← Nat.xor_assoc b c d, ← Nat.xor_assoc c b d, Nat.xor_comm b c]
theorem xt_xor {x y : Nat} (hx : x < 256) (hy : y < 256) : xt (x ^^^ y) = xt x ^^^ xt y := by
  rw [xt_eq (xor_lt hx hy), xt_eq hx, xt_eq hy, Nat.shiftRight_xor_distrib, Nat.shiftLeft_xor_distrib, bit_285 _ (by rw [Nat.shiftRight_eq_div_pow]; omega) _ (by rw [Nat.shiftRight_eq_div_pow]; omega)]
  exact xor4 _ _ _ _
theorem xt_lt {n : Nat} (h : n < 256) : xt n < 256 := by
  by_cases h0 : n = 0
  · subst h0; decide
  · have := pw_succ (lg_lt h)
    rw [pw_lg (by omega) h] at this
    rw [← this]
    exact pw_lt _
def xts : Nat → Nat → Nat
  | 0, n => n
  | k + 1, n => xt (xts k n)
theorem xts_lt : ∀ k {n : Nat}, n < 256 → xts k n < 256
  | 0, _, h => h
  | k + 1, _, h => xt_lt (xts_lt k h)
theorem xts_xor : ∀ k {x y : Nat}, x < 256 → y < 256 → xts k (x ^^^ y) = xts k x ^^^ xts k y
  | 0, _, _, _, _ => rfl
  | k + 1, x, y, hx, hy => by rw [xts, xts, xts, xts_xor k hx hy, xt_xor (xts_lt k hx) (xts_lt k hy)]
theorem xts_zero : ∀ k, xts k 0 = 0
  | 0 => rfl
  | k + 1 => by rw [xts, xts_zero k]; rfl
theorem xts_add : ∀ k j n, xts (k + j) n = xts k (xts j n)
  | 0, j, n => by rw [Nat.zero_add]; rfl
  | k + 1, j, n => by rw [Nat.succ_add, xts, xts, xts_add k j n]
theorem xts_pw (i : Nat) : ∀ k, xts k (pw (i % 255)) = pw ((i + k) % 255)
  | 0 => rfl
  | k + 1 => by
    rw [xts, xts_pw i k]
    have hl : (i + k) % 255 < 255 := Nat.mod_lt _ (by omega)
    rw [← pw_succ hl]
    by_cases h : (i + k) % 255 = 254
    · rw [h, show (i + (k + 1)) % 255 = 0 by omega]; rfl
    · rw [show (i + (k + 1)) % 255 = (i + k) % 255 + 1 by omega]
theorem xts_period {n : Nat} (h : n < 256) (k : Nat) : xts (k % 255) n = xts k n := by
  by_cases h0 : n = 0
  · rw [h0, xts_zero, xts_zero]
  · have hl := lg_lt h
    have e := pw_lg (by omega) h
    rw [← e, ← Nat.mod_eq_of_lt hl, xts_pw, xts_pw]
    congr 1
    omega
theorem mul_xts {a b : Nat} (ha0 : 0 < a) (ha : a < 256) (hb : b < 256) : mul a b = xts (lg a) b := by
  by_cases h0 : b = 0
  · rw [h0, mul_zero, xts_zero]
  · have e := pw_lg (by omega) hb
    have := xts_pw (lg b) (lg a)
    rw [Nat.mod_eq_of_lt (lg_lt hb), e] at this
    rw [this]
    unfold mul
    rw [if_neg (by omega), Nat.add_comm]
/-- The laws of the field. -/
theorem mul_xor {a x y : Nat} (ha : a < 256) (hx : x < 256) (hy : y < 256) : mul a (x ^^^ y) = mul a x ^^^ mul a y := by
  by_cases h0 : a = 0
  · rw [h0, zero_mul, zero_mul, zero_mul]; rfl
  · rw [mul_xts (by omega) ha (xor_lt hx hy), mul_xts (by omega) ha hx, mul_xts (by omega) ha hy, xts_xor _ hx hy]
theorem xor_mul {a x y : Nat} (ha : a < 256) (hx : x < 256) (hy : y < 256) : mul (x ^^^ y) a = mul x a ^^^ mul y a := by
  rw [mul_comm, mul_xor ha hx hy, mul_comm x a, mul_comm y a]
theorem mul_assoc {a b c : Nat} (ha : a < 256) (hb : b < 256) (hc : c < 256) : mul a (mul b c) = mul (mul a b) c := by
  by_cases h0 : a = 0
  · rw [h0, zero_mul, zero_mul, zero_mul]
  by_cases h1 : b = 0
  · rw [h1, zero_mul, mul_zero, zero_mul]
  have hab : mul a b = pw ((lg a + lg b) % 255) := if_neg (by omega)
  have hl : (lg a + lg b) % 255 < 255 := Nat.mod_lt _ (by omega)
  rw [mul_xts (by omega) ha (mul_lt b c), mul_xts (by omega) hb hc, ← xts_add, hab, mul_xts (pw_pos hl) (pw_lt _) hc, lg_pw hl, xts_period hc]
end Gf
end Go.Proofs.Ytpfelklhejpnnaa
