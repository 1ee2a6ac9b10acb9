/- The plain arithmetic of layer 6: clamping, the squash curve and its least inverse, rounded quotients, logarithms. No program is in sight. -/
import Derived.Lib.BitFns
import Derived.Lib.ItoaNum
namespace Go.Proofs.Ytnodnfmgklkjeaa

def cl (lo hi n : Int) : Int := if lo < (if hi < n then hi else n) then (if hi < n then hi else n) else lo
theorem cl_bd (lo hi n : Int) (h : lo ≤ hi) : lo ≤ cl lo hi n ∧ cl lo hi n ≤ hi := by unfold cl; (repeat' split) <;> omega
theorem cl_id (lo hi n : Int) (h1 : lo ≤ n) (h2 : n ≤ hi) : cl lo hi n = n := by unfold cl; (repeat' split) <;> omega
theorem cl_mono (lo hi a b : Int) (hl : lo ≤ hi) (h : a ≤ b) : cl lo hi a ≤ cl lo hi b := by unfold cl; (repeat' split) <;> omega
theorem cl_neg (hi a : Int) (hl : 0 ≤ hi) : cl (-hi) hi (-a) = - cl (-hi) hi a := by unfold cl; (repeat' split) <;> omega

/-- The squash curve for evidence from 0 on. -/
def sqE (x : Int) : Int := (65536 - 128 * (x % 256)) / 2 ^ (x / 256).toNat
def sqn (x : Int) : Int := 268435456 / (65536 + sqE x)
theorem sq_tab : (List.range 3072).all (fun i => decide (0 ≤ sqE (i : Int)) && decide (sqE (i : Int) ≤ 65536) && decide (2048 ≤ sqn (i : Int)) && decide (sqn (i : Int) ≤ 4095) && (decide (i = 3071) || decide (sqn (i : Int) ≤ sqn ((i : Int) + 1)))) = true := by decide +kernel
theorem sq_facts (x : Int) (h0 : 0 ≤ x) (h1 : x ≤ 3071) : 0 ≤ sqE x ∧ sqE x ≤ 65536 ∧ 2048 ≤ sqn x ∧ sqn x ≤ 4095 ∧ (x = 3071 ∨ sqn x ≤ sqn (x + 1)) := by
  have h := List.all_eq_true.mp sq_tab x.toNat (by simp; omega)
  simp only [Bool.and_eq_true, Bool.or_eq_true, decide_eq_true_eq] at h
  have e : (x.toNat : Int) = x := by omega
  rw [e] at h
  obtain ⟨⟨⟨⟨a, b⟩, c⟩, d⟩, f⟩ := h
  exact ⟨a, b, c, d, by omega⟩
def sq (x : Int) : Int := if cl (-3071) 3071 x < 0 then 4096 - sqn (-(cl (-3071) 3071 x)) else sqn (cl (-3071) 3071 x)
theorem sq_cl (x : Int) : sq (cl (-3071) 3071 x) = sq x := by
  have h := cl_bd (-3071) 3071 x (by omega)
  unfold sq; rw [cl_id _ _ _ h.1 h.2]
theorem sq_bd (x : Int) : 1 ≤ sq x ∧ sq x ≤ 4095 := by
  have h := cl_bd (-3071) 3071 x (by omega)
  unfold sq
  split
  · have := sq_facts (-(cl (-3071) 3071 x)) (by omega) (by omega); omega
  · have := sq_facts (cl (-3071) 3071 x) (by omega) (by omega); omega
theorem sq_neg (x : Int) : sq x + sq (-x) = 4096 := by
  have h := cl_bd (-3071) 3071 x (by omega)
  unfold sq
  rw [cl_neg 3071 x (by omega)]
  split
  · rw [if_neg (by omega)]; omega
  · split
    · rw [Int.neg_neg]; omega
    · have e : cl (-3071) 3071 x = 0 := by omega
      rw [e]; decide
theorem sqn_zero : sqn 0 = 2048 := by decide
theorem sq_step (x : Int) (h0 : -3071 ≤ x) (h1 : x < 3071) : sq x ≤ sq (x + 1) := by
  unfold sq
  rw [cl_id _ _ x (by omega) (by omega), cl_id _ _ (x + 1) (by omega) (by omega)]
  split
  · split
    · have := sq_facts (-(x + 1)) (by omega) (by omega)
      rw [show -(x + 1) + 1 = -x by omega] at this
      omega
    · have e : x = -1 := by omega
      subst e
      decide
  · rw [if_neg (by omega)]
    have := sq_facts x (by omega) (by omega)
    omega
theorem sq_mono_aux (k : Nat) : ∀ x : Int, -3071 ≤ x → x + k ≤ 3071 → sq x ≤ sq (x + k) := by
  induction k with
  | zero => intro x _ _; simp
  | succ k ih =>
    intro x h0 h1
    have a := ih x h0 (by omega)
    have b := sq_step (x + k) (by omega) (by omega)
    rw [show x + ((k + 1 : Nat) : Int) = x + k + 1 by omega]
    omega
theorem sq_mono (a b : Int) (h : a ≤ b) : sq a ≤ sq b := by
  rw [← sq_cl a, ← sq_cl b]
  have ha := cl_bd (-3071) 3071 a (by omega)
  have hb := cl_bd (-3071) 3071 b (by omega)
  have hm := cl_mono (-3071) 3071 a b (by omega) h
  have := sq_mono_aux (cl (-3071) 3071 b - cl (-3071) 3071 a).toNat (cl (-3071) 3071 a) ha.1 (by omega)
  rwa [show cl (-3071) 3071 a + ((cl (-3071) 3071 b - cl (-3071) 3071 a).toNat : Int) = cl (-3071) 3071 b by omega] at this
theorem sq_top : sq 3071 = 4095 := by decide

/-- The least evidence for a probability. -/
def IsSt (p x : Int) : Prop := -3071 ≤ x ∧ x ≤ 3071 ∧ p ≤ sq x ∧ (x = -3071 ∨ sq (x - 1) < p)
def stF (p : Int) : Nat → Int → Int
  | 0, x => x
  | k + 1, x => if p ≤ sq (x - 1) then stF p k (x - 1) else x
theorem stF_is (p : Int) (k : Nat) : ∀ x : Int, x - k = -3071 → x ≤ 3071 → p ≤ sq x → IsSt p (stF p k x) := by
  induction k with
  | zero => intro x h h1 h2; exact ⟨by simp [stF]; omega, by simp [stF]; omega, h2, Or.inl (by simp [stF]; omega)⟩
  | succ k ih =>
    intro x h h1 h2
    unfold stF
    split
    · next hp => exact ih (x - 1) (by omega) (by omega) hp
    · exact ⟨by omega, h1, h2, Or.inr (by omega)⟩
def st (p : Int) : Int := stF (cl 1 4095 p) 6142 3071
theorem st_is (p : Int) : IsSt (cl 1 4095 p) (st p) := stF_is _ 6142 3071 (by omega) (by omega) (by rw [sq_top]; exact (cl_bd 1 4095 p (by omega)).2)
theorem is_unique {p x y : Int} (hx : IsSt p x) (hy : IsSt p y) : x = y := by
  obtain ⟨x0, x1, x2, x3⟩ := hx
  obtain ⟨y0, y1, y2, y3⟩ := hy
  rcases Int.lt_trichotomy x y with h | h | h
  · have := sq_mono x (y - 1) (by omega); omega
  · exact h
  · have := sq_mono y (x - 1) (by omega); omega
theorem st_of {p x : Int} (h : IsSt (cl 1 4095 p) x) : x = st p := is_unique h (st_is p)
theorem st_bd (p : Int) : -3071 ≤ st p ∧ st p ≤ 3071 := ⟨(st_is p).1, (st_is p).2.1⟩
theorem st_mono (a b : Int) (h : a ≤ b) : st a ≤ st b := by
  obtain ⟨x0, x1, x2, x3⟩ := st_is a
  obtain ⟨y0, y1, y2, y3⟩ := st_is b
  have hm := cl_mono 1 4095 a b (by omega) h
  rcases Int.lt_or_le (st b) (st a) with hl | hl
  · have := sq_mono (st b) (st a - 1) (by omega); omega
  · exact hl

/-- The rounded quotient. -/
def mx : Int := 9007199254740991
def rpos (n d : Int) : Int := (2 * n + d) / (2 * d)
def rsg (n d : Int) : Int := if n < 0 then -(rpos (-n) d) else rpos n d
def rn (n d : Int) : Int := if d = 0 then 0 else if d < 0 then rsg (-n) (-d) else rsg n d
def rnd (n d : Int) : Int := rn (cl (-mx) mx n) (cl (-mx) mx d)
theorem rpos_bd (n d : Int) (h0 : 0 ≤ n) (h1 : n ≤ mx) (hd : 0 < d) (hd1 : d ≤ mx) : 0 ≤ rpos n d ∧ rpos n d ≤ mx + 1 := by
  unfold rpos mx at *
  refine ⟨Int.ediv_nonneg (by omega) (by omega), ?_⟩
  have : (2 * n + d) / (2 * d) ≤ n + 1 := by
    apply Int.ediv_le_of_le_mul (by omega)
    have g : n * 1 ≤ n * d := Int.mul_le_mul_of_nonneg_left (by omega) h0
    have e : (n + 1) * (2 * d) = 2 * (n * d) + 2 * d := by
      rw [Int.add_mul, Int.mul_left_comm]; omega
    omega
  omega

/-- The logarithm. -/
def lgk (n : Int) : Nat := Lib.bitLen (cl 1 mx n).toNat - 1
def lg (n : Int) : Int := 256 * (lgk n : Int) + cl 1 mx n * 256 / 2 ^ lgk n - 256
theorem lgk_facts (n : Int) : lgk n ≤ 52 ∧ (2 : Int) ^ lgk n ≤ cl 1 mx n ∧ cl 1 mx n < 2 ^ (lgk n + 1) ∧ (Lib.bitLen (cl 1 mx n).toNat : Int) = lgk n + 1 := by
  have h := cl_bd 1 mx n (by decide)
  have hm : mx = 9007199254740991 := rfl
  have b := Lib.bitLenAux_bounds 64 (cl 1 mx n).toNat (by omega) (by omega)
  have b' : 1 ≤ Lib.bitLen (cl 1 mx n).toNat ∧ 2 ^ (Lib.bitLen (cl 1 mx n).toNat - 1) ≤ (cl 1 mx n).toNat ∧ (cl 1 mx n).toNat < 2 ^ Lib.bitLen (cl 1 mx n).toNat := b
  have l : Lib.bitLen (cl 1 mx n).toNat ≤ 53 := Lib.bitLen_le _ 53 (by omega) (by omega)
  obtain ⟨b1, b2, b3⟩ := b'
  have e : Lib.bitLen (cl 1 mx n).toNat = lgk n + 1 := by unfold lgk; omega
  have e2 : Lib.bitLen (cl 1 mx n).toNat - 1 = lgk n := rfl
  rw [e2] at b2
  rw [e] at b3 l ⊢
  have c2 : ((2 ^ lgk n : Nat) : Int) ≤ ((cl 1 mx n).toNat : Int) := Int.ofNat_le.mpr b2
  have c3 : ((cl 1 mx n).toNat : Int) < ((2 ^ (lgk n + 1) : Nat) : Int) := Int.ofNat_lt.mpr b3
  rw [Int.natCast_pow] at c2 c3
  refine ⟨by omega, ?_, ?_, by omega⟩
  · have : (2 : Int) ^ lgk n ≤ ((cl 1 mx n).toNat : Int) := c2
    omega
  · have : ((cl 1 mx n).toNat : Int) < (2 : Int) ^ (lgk n + 1) := c3
    omega
end Go.Proofs.Ytnodnfmgklkjeaa
