/- The plain law of the coder: the decoder's state beside the encoder's. No program is in sight. -/
import Derived.Test.YtnodnfmgklkjeaaCq
namespace Go.Proofs.Ytnodnfmgklkjeaa
open Go.RowKit
set_option linter.unusedVariables false

theorem snoc_ind {P : List Int → Prop} (h0 : P []) (h1 : ∀ l x, P l → P (l ++ [x])) (l : List Int) : P l := by
  have : ∀ n (l : List Int), l.length = n → P l := by
    intro n
    induction n with
    | zero => intro l hl; rw [List.eq_nil_of_length_eq_zero hl]; exact h0
    | succ n ih =>
      intro l hl
      rcases list_snoc l with rfl | ⟨m, x, rfl⟩
      · simp at hl
      · exact h1 m x (ih m (by simpa using hl))
  exact this _ l rfl
/-- The number that bytes are. -/
def val (l : List Int) : Int := l.foldl (fun a x => a * 256 + x) 0
theorem val_nil : val [] = 0 := rfl
theorem val_snoc (l : List Int) (x : Int) : val (l ++ [x]) = val l * 256 + x := by simp [val]
/-- The number that the first bytes are, zeros behind them. -/
def D (b : List Int) : Nat → Int
  | 0 => 0
  | m + 1 => D b m * 256 + b.getD m 0
theorem getD_bd {b : List Int} (h : Bytes b) (m : Nat) : 0 ≤ b.getD m 0 ∧ b.getD m 0 ≤ 255 := by
  by_cases hm : m < b.length
  · exact h.get m hm
  · simp [List.getD, List.getElem?_eq_none (Nat.le_of_not_lt hm)]
theorem val_bd (l : List Int) (h : Bytes l) : 0 ≤ val l ∧ val l < 256 ^ l.length := by
  revert h
  refine snoc_ind (P := fun l => Bytes l → 0 ≤ val l ∧ val l < 256 ^ l.length) ?_ ?_ l
  · intro h; simp [val]
  · intro l x ih h
    have h1 : Bytes l := fun y hy => h y (by simp [hy])
    have h2 := h x (by simp)
    have := ih h1
    rw [val_snoc, List.length_append, List.length_singleton, Int.pow_succ]
    omega
theorem carry_val (l : List Int) (h : Bytes l) (hv : val l + 1 < 256 ^ l.length) : val (carryL l) = val l + 1 := by
  revert h hv
  refine snoc_ind (P := fun l => Bytes l → val l + 1 < 256 ^ l.length → val (carryL l) = val l + 1) ?_ ?_ l
  · intro h hv; simp [val] at hv
  · intro l x ih h hv
    have h1 : Bytes l := fun y hy => h y (by simp [hy])
    rw [carryL_snoc]
    rw [val_snoc, List.length_append, List.length_singleton, Int.pow_succ] at hv
    split
    · next he =>
      subst he
      rw [val_snoc, val_snoc, ih h1 (by omega)]
      omega
    · rw [val_snoc, val_snoc]; omega
theorem D_take (b : List Int) (m : Nat) (hm : m ≤ b.length) : D b m = val (b.take m) := by
  induction m with
  | zero => simp [D, val]
  | succ m ih =>
    rw [List.take_succ_eq_append_getElem (by omega), val_snoc, ← ih (by omega)]
    simp [D, List.getD, show m < b.length by omega]
theorem D_len (b : List Int) : D b b.length = val b := by rw [D_take b _ (Nat.le_refl _), List.take_length]
theorem D_past (b : List Int) (j : Nat) : D b (b.length + j) = val b * 256 ^ j := by
  induction j with
  | zero => simp [D_len]
  | succ j ih =>
    show D b (b.length + j) * 256 + b.getD (b.length + j) 0 = _
    rw [ih, Int.pow_succ]
    simp [List.getD, Int.mul_assoc]
theorem D_congr (a b : List Int) (h : ∀ i, a.getD i 0 = b.getD i 0) (m : Nat) : D a m = D b m := by
  induction m with
  | zero => rfl
  | succ m ih => simp only [D, ih, h m]
theorem trim_get (l : List Int) (i : Nat) : (trim l).getD i 0 = l.getD i 0 := by
  refine snoc_ind (P := fun l => (trim l).getD i 0 = l.getD i 0) rfl ?_ l
  · intro l x ih
    rw [trim_snoc]
    split
    · next he =>
      subst he
      rw [ih]
      simp only [List.getD, List.getElem?_append]
      split
      · rfl
      · next hi =>
        rw [List.getElem?_eq_none (Nat.le_of_not_lt hi)]
        rcases Nat.eq_zero_or_pos (i - l.length) with h0 | h0
        · simp [h0]
        · rw [List.getElem?_eq_none (by simp; omega)]
    · rfl
theorem drop_head (b : List Int) (m : Nat) : (b.drop m).headD 0 = b.getD m 0 := by
  rw [List.headD_eq_head?_getD, List.head?_drop]
  rfl

/-- The interval's beginning, in units of its own. -/
def base (lo : Int) (out : List Int) : Int := val out * 4294967296 + lo
def Inn (b : List Int) (wd lo : Int) (out : List Int) : Prop := base lo out ≤ D b (out.length + 4) ∧ D b (out.length + 4) < base lo out + wd
structure Inv (wd lo : Int) (out : List Int) : Prop where
  w0 : 0 < wd
  w1 : wd ≤ 4294967295
  l0 : 0 ≤ lo
  l1 : lo ≤ 4294967295
  bytes : Bytes out
  fit : base lo out + wd ≤ 256 ^ (out.length + 4)

theorem base_shift (lo : Int) (out : List Int) (h0 : 0 ≤ lo) (h1 : lo ≤ 4294967295) : base (lo * 256 % 4294967296) (out ++ [lo / 16777216]) = base lo out * 256 := by
  unfold base
  rw [val_snoc]
  omega
theorem Inv.shift {wd lo : Int} {out : List Int} (h : Inv wd lo out) (hs : wd < 16777216) : Inv (wd * 256 % 4294967296) (lo * 256 % 4294967296) (out ++ [lo / 16777216]) := by
  obtain ⟨w0, w1, l0, l1, hb, hf⟩ := h
  refine ⟨by omega, by omega, by omega, by omega, hb.snoc (by omega) (by omega), ?_⟩
  rw [base_shift lo out l0 l1, List.length_append, List.length_singleton, show out.length + 1 + 4 = (out.length + 4) + 1 by omega, Int.pow_succ]
  omega
/-- The shifts: the interval of later is within that of before, and the decoder goes beside. -/
theorem sh_run (b : List Int) (hbb : Bytes b) : ∀ (k : Nat) (wd lo : Int) (out : List Int), Inv wd lo out →
    Inn b (shN k wd lo out).1 (shN k wd lo out).2.1 (shN k wd lo out).2.2 →
    Inn b wd lo out ∧ deN k wd (D b (out.length + 4) - base lo out) (b.drop (out.length + 4)) =
      ((shN k wd lo out).1, D b ((shN k wd lo out).2.2.length + 4) - base (shN k wd lo out).2.1 (shN k wd lo out).2.2, b.drop ((shN k wd lo out).2.2.length + 4)) := by
  intro k
  induction k with
  | zero => intro wd lo out hI h; exact ⟨h, rfl⟩
  | succ k ih =>
    intro wd lo out hI h
    by_cases hs : wd < 16777216
    · rw [shN_small k _ _ _ hs] at h ⊢
      have hI' := hI.shift hs
      obtain ⟨h1, h2⟩ := ih _ _ _ hI' h
      have hx := getD_bd hbb (out.length + 4)
      have hl : (out ++ [lo / 16777216]).length + 4 = (out.length + 4) + 1 := by simp
      have e1 : D b ((out ++ [lo / 16777216]).length + 4) = D b (out.length + 4) * 256 + b.getD (out.length + 4) 0 := by rw [hl]; rfl
      have e2 := base_shift lo out hI.l0 hI.l1
      have hI0 := hI.w0
      have hin : Inn b wd lo out := by
        unfold Inn at h1 ⊢
        rw [e1, e2] at h1
        omega
      refine ⟨hin, ?_⟩
      rw [deN_small k _ _ _ hs]
      rw [← h2, e1, e2]
      unfold Inn at hin
      have e3 : shC (D b (out.length + 4) - base lo out) (b.drop (out.length + 4)) = D b (out.length + 4) * 256 + b.getD (out.length + 4) 0 - base lo out * 256 := by
        unfold shC
        rw [drop_head, Int.emod_eq_of_lt (by omega) (by omega)]
        omega
      rw [e3, hl, List.tail_drop]
    · rw [shN_stop _ _ _ _ (by omega)] at h ⊢
      rw [deN_stop _ _ _ _ (by omega)]
      exact ⟨h, rfl⟩
theorem sh_inv : ∀ (k : Nat) (wd lo : Int) (out : List Int), Inv wd lo out → 16777216 ≤ wd * 256 ^ k →
    Inv (shN k wd lo out).1 (shN k wd lo out).2.1 (shN k wd lo out).2.2 ∧ 16777216 ≤ (shN k wd lo out).1 := by
  intro k
  induction k with
  | zero => intro wd lo out h hk; simp at hk; exact ⟨h, hk⟩
  | succ k ih =>
    intro wd lo out h hk
    by_cases hs : wd < 16777216
    · rw [shN_small k _ _ _ hs]
      have h0 := h.w0
      refine ih _ _ _ (h.shift hs) ?_
      rw [Int.emod_eq_of_lt (by omega) (by omega)]
      rw [Int.pow_succ, Int.mul_comm (256 ^ k), ← Int.mul_assoc] at hk
      exact hk
    · rw [shN_stop _ _ _ _ (by omega)]
      exact ⟨h, by omega⟩

/-- A bit: the part of it. -/
theorem part_base (wd lo bit p : Int) (out : List Int) (h : Inv wd lo out) (hw : 16777216 ≤ wd) (hp0 : 1 ≤ p) (hp1 : p ≤ 4095) (hbit : bit = 0 ∨ bit = 1) :
    base (encLo wd lo p bit) (encL wd lo p bit out) = base lo out + (if bit = 1 then 0 else wd / 4096 * p) ∧ (encL wd lo p bit out).length = out.length ∧
    Inv (encWd wd p bit) (encLo wd lo p bit) (encL wd lo p bit out) := by
  obtain ⟨b0, b1, b2⟩ := bound_bd wd p (by omega) h.w1 (by omega) hp1
  have hwb := encWd_bd wd p bit hw h.w1 hp0 hp1
  have h4 : wd / 4096 * 4095 < wd := by omega
  obtain ⟨w0, w1, l0, l1, hb, hf⟩ := h
  obtain ⟨bd, hbd⟩ : ∃ bd, wd / 4096 * p = bd := ⟨_, rfl⟩
  rw [hbd] at b0 b1
  rcases hbit with rfl | rfl
  · have e1 : encWd wd p 0 = wd - bd := by unfold encWd; rw [if_neg (show ¬ (0 : Int) = 1 by decide), hbd]
    have e2 : encLo wd lo p 0 = (lo + bd) % 4294967296 := by unfold encLo; rw [if_neg (show ¬ (0 : Int) = 1 by decide), hbd]
    have e3 : encL wd lo p 0 out = if 4294967296 ≤ lo + bd then carryL out else out := by unfold encL; rw [if_neg (show ¬ (0 : Int) = 1 by decide), hbd]
    rw [e1] at hwb
    rw [e1, e2, e3, if_neg (show ¬ (0 : Int) = 1 by decide), hbd]
    have hpow : (256 : Int) ^ (out.length + 4) = 256 ^ out.length * 4294967296 := by rw [Int.pow_add]; rfl
    unfold base at hf ⊢
    have key : val (if 4294967296 ≤ lo + bd then carryL out else out) * 4294967296 + (lo + bd) % 4294967296 = val out * 4294967296 + lo + bd := by
      split
      · next hc =>
        rw [carry_val out hb (by rw [hpow] at hf; omega)]
        omega
      · omega
    have hlen : (if 4294967296 ≤ lo + bd then carryL out else out).length = out.length := by
      split
      · exact carryL_len out
      · rfl
    refine ⟨by rw [key], hlen, by omega, by omega, by omega, by omega, ?_, ?_⟩
    · split
      · exact carryL_bytes hb
      · exact hb
    · unfold base
      rw [key, hlen]
      omega
  · have e1 : encWd wd p 1 = bd := by unfold encWd; rw [if_pos rfl, hbd]
    have e2 : encLo wd lo p 1 = lo := by unfold encLo; rw [if_pos rfl]
    have e3 : encL wd lo p 1 out = out := by unfold encL; rw [if_pos rfl]
    rw [e1] at hwb
    rw [e1, e2, e3, if_pos rfl]
    exact ⟨by omega, rfl, by omega, by omega, l0, l1, hb, by omega⟩

theorem enc_inv (wd lo bit p : Int) (out : List Int) (h : Inv wd lo out) (hw : 16777216 ≤ wd) (hp0 : 1 ≤ p) (hp1 : p ≤ 4095) (hbit : bit = 0 ∨ bit = 1) :
    Inv (enc wd lo out bit p).1 (enc wd lo out bit p).2.1 (enc wd lo out bit p).2.2 ∧ 16777216 ≤ (enc wd lo out bit p).1 := by
  have hwb := encWd_bd wd p bit hw h.w1 hp0 hp1
  exact sh_inv 3 _ _ _ (part_base wd lo bit p out h hw hp0 hp1 hbit).2.2 (by omega)

/-- One bit: the decoder returns it and goes on beside the encoder. -/
theorem enc_run (b : List Int) (hbb : Bytes b) (wd lo bit p : Int) (out : List Int) (h : Inv wd lo out) (hw : 16777216 ≤ wd) (hp0 : 1 ≤ p) (hp1 : p ≤ 4095) (hbit : bit = 0 ∨ bit = 1)
    (hin : Inn b (enc wd lo out bit p).1 (enc wd lo out bit p).2.1 (enc wd lo out bit p).2.2) :
    Inn b wd lo out ∧ decBit wd (D b (out.length + 4) - base lo out) p = bit ∧
    dec wd (D b (out.length + 4) - base lo out) (b.drop (out.length + 4)) p =
      ((enc wd lo out bit p).1, D b ((enc wd lo out bit p).2.2.length + 4) - base (enc wd lo out bit p).2.1 (enc wd lo out bit p).2.2, b.drop ((enc wd lo out bit p).2.2.length + 4)) := by
  obtain ⟨b0, b1, b2⟩ := bound_bd wd p (by omega) h.w1 (by omega) hp1
  have h4 : wd / 4096 * 4095 < wd := by omega
  obtain ⟨p1, p2, p3⟩ := part_base wd lo bit p out h hw hp0 hp1 hbit
  obtain ⟨q1, q2⟩ := sh_run b hbb 3 _ _ _ p3 hin
  have hw1 := h.w1
  unfold Inn at q1
  rw [p1, p2] at q1
  rw [p1, p2] at q2
  have hb1 : decBit wd (D b (out.length + 4) - base lo out) p = bit := by
    unfold decBit
    rcases hbit with rfl | rfl
    · rw [if_neg (show ¬ (0 : Int) = 1 by decide)] at q1; rw [if_neg (by omega)]
    · rw [if_pos rfl] at q1
      have : encWd wd p 1 = wd / 4096 * p := by unfold encWd; rw [if_pos rfl]
      rw [if_pos (by omega)]
  refine ⟨?_, hb1, ?_⟩
  · unfold Inn
    rcases hbit with rfl | rfl
    · rw [if_neg (show ¬ (0 : Int) = 1 by decide)] at q1
      have : encWd wd p 0 = wd - wd / 4096 * p := by unfold encWd; rw [if_neg (show ¬ (0 : Int) = 1 by decide)]
      omega
    · rw [if_pos rfl] at q1
      have : encWd wd p 1 = wd / 4096 * p := by unfold encWd; rw [if_pos rfl]
      omega
  · unfold dec
    rw [hb1]
    have hc : decC wd (D b (out.length + 4) - base lo out) p = D b (out.length + 4) - (base lo out + if bit = 1 then 0 else wd / 4096 * p) := by
      unfold decC
      rcases hbit with rfl | rfl
      · rw [if_neg (show ¬ (0 : Int) = 1 by decide)] at q1 ⊢
        have : encWd wd p 0 = wd - wd / 4096 * p := by unfold encWd; rw [if_neg (show ¬ (0 : Int) = 1 by decide)]
        rw [if_neg (by omega), Int.emod_eq_of_lt (by omega) (by omega)]
        omega
      · rw [if_pos rfl] at q1 ⊢
        have : encWd wd p 1 = wd / 4096 * p := by unfold encWd; rw [if_pos rfl]
        rw [if_pos (by omega)]
        omega
    rw [hc, q2]
    rfl

/-- The code lies in the interval. -/
theorem fin_in (wd lo : Int) (out : List Int) (h : Inv wd lo out) (hw : 16777216 ≤ wd) : Inn (trim (finL lo wd out)) wd lo out := by
  obtain ⟨w0, w1, l0, l1, hb, hf⟩ := h
  have hpow : (256 : Int) ^ (out.length + 4) = 256 ^ out.length * 4294967296 := by rw [Int.pow_add]; rfl
  unfold Inn
  rw [D_congr (trim (finL lo wd out)) (finL lo wd out) (trim_get _)]
  unfold base at hf ⊢
  unfold finL
  split
  · next h0 =>
    rw [D_past]
    subst h0
    omega
  · split
    · next h0 h1 =>
      have hl := carryL_len out
      have := D_past (carryL out) 4
      rw [hl] at this
      rw [this, carry_val out hb (by rw [hpow] at hf; omega)]
      omega
    · next h0 h1 =>
      have := D_past (out ++ [(lo + 16777215) / 16777216]) 3
      rw [List.length_append, List.length_singleton, show out.length + 1 + 3 = out.length + 4 by omega] at this
      rw [this, val_snoc]
      omega

/-! Many bits. -/
abbrev St := Int × Int × List Int
def encS (s : St) (x : Int × Int) : St := enc s.1 s.2.1 s.2.2 x.1 x.2
def encs (s : St) (l : List (Int × Int)) : St := l.foldl encS s
theorem encs_snoc (s : St) (l : List (Int × Int)) (x : Int × Int) : encs s (l ++ [x]) = encS (encs s l) x := by simp [encs]
def Step (x : Int × Int) : Prop := (x.1 = 0 ∨ x.1 = 1) ∧ 1 ≤ x.2 ∧ x.2 ≤ 4095
def SInv (s : St) : Prop := Inv s.1 s.2.1 s.2.2 ∧ 16777216 ≤ s.1
def SIn (b : List Int) (s : St) : Prop := Inn b s.1 s.2.1 s.2.2
theorem SInv.first : SInv (4294967295, 0, []) := ⟨⟨by decide, by decide, by decide, by decide, (fun x hx => by cases hx), by decide⟩, by decide⟩
theorem SInv.step {s : St} (h : SInv s) {x : Int × Int} (hx : Step x) : SInv (encS s x) := enc_inv _ _ _ _ _ h.1 h.2 hx.2.1 hx.2.2 hx.1
theorem SInv.steps {s : St} (h : SInv s) (l : List (Int × Int)) (hl : ∀ x ∈ l, Step x) : SInv (encs s l) := by
  induction l generalizing s with
  | nil => exact h
  | cons x l ih => exact ih (h.step (hl x (by simp))) (fun y hy => hl y (by simp [hy]))
/-- The code of all lies in the interval of each beginning. -/
theorem in_back (b : List Int) (hbb : Bytes b) (s : St) (h : SInv s) (l : List (Int × Int)) (hl : ∀ x ∈ l, Step x) (hin : SIn b (encs s l)) : SIn b s := by
  induction l generalizing s with
  | nil => exact hin
  | cons x l ih =>
    have hx := hl x (by simp)
    have h1 := ih (encS s x) (h.step hx) (fun y hy => hl y (by simp [hy])) hin
    exact (enc_run b hbb _ _ _ _ _ h.1 h.2 hx.2.1 hx.2.2 hx.1 h1).1
/-- The decoder's state beside an encoder's. -/
def beside (b : List Int) (s : St) : Int × Int × List Int := (s.1, D b (s.2.2.length + 4) - base s.2.1 s.2.2, b.drop (s.2.2.length + 4))
theorem beside_step (b : List Int) (hbb : Bytes b) (s : St) (h : SInv s) (x : Int × Int) (hx : Step x) (hin : SIn b (encS s x)) :
    decBit s.1 (beside b s).2.1 x.2 = x.1 ∧ dec s.1 (beside b s).2.1 (beside b s).2.2 x.2 = beside b (encS s x) ∧ 0 ≤ (beside b s).2.1 ∧ (beside b s).2.1 ≤ 4294967295 := by
  obtain ⟨h1, h2, h3⟩ := enc_run b hbb _ _ _ _ _ h.1 h.2 hx.2.1 hx.2.2 hx.1 hin
  have := h.1.w1
  unfold Inn at h1
  refine ⟨h2, h3, ?_, ?_⟩
  · show 0 ≤ D b (s.2.2.length + 4) - base s.2.1 s.2.2; omega
  · show D b (s.2.2.length + 4) - base s.2.1 s.2.2 ≤ 4294967295; omega
/-- The first state of the decoder. -/
theorem beside_first (b : List Int) (hbb : Bytes b) : opF b = beside b (4294967295, 0, []) := by
  have x0 := getD_bd hbb 0
  have x1 := getD_bd hbb 1
  have x2 := getD_bd hbb 2
  have x3 := getD_bd hbb 3
  have hh : ∀ m, (b.drop m).headD 0 = b.getD m 0 := drop_head b
  have t1 : b.tail = b.drop 1 := List.drop_one.symm
  have t2 : b.tail.tail = b.drop 2 := by rw [t1, List.tail_drop]
  have t3 : b.tail.tail.tail = b.drop 3 := by rw [t2, List.tail_drop]
  have t4 : b.tail.tail.tail.tail = b.drop 4 := by rw [t3, List.tail_drop]
  have e0 : shC 0 b = b.getD 0 0 := by have := hh 0; unfold shC; rw [List.drop_zero] at this; rw [this]; omega
  have e1 : shC (b.getD 0 0) b.tail = b.getD 0 0 * 256 + b.getD 1 0 := by have := hh 1; unfold shC; rw [t1, this]; omega
  have e2 : shC (b.getD 0 0 * 256 + b.getD 1 0) b.tail.tail = (b.getD 0 0 * 256 + b.getD 1 0) * 256 + b.getD 2 0 := by
    have := hh 2; unfold shC; rw [t2, this]; omega
  have e3 : shC ((b.getD 0 0 * 256 + b.getD 1 0) * 256 + b.getD 2 0) b.tail.tail.tail = ((b.getD 0 0 * 256 + b.getD 1 0) * 256 + b.getD 2 0) * 256 + b.getD 3 0 := by
    have := hh 3; unfold shC; rw [t3, this]; omega
  unfold opF beside
  simp only [opN, e0, e1, e2, e3, List.length_nil]
  have : D b (0 + 4) = ((b.getD 0 0 * 256 + b.getD 1 0) * 256 + b.getD 2 0) * 256 + b.getD 3 0 := by simp [D]
  rw [this]
  refine Prod.ext rfl (Prod.ext ?_ ?_)
  · simp [base, val]
  · exact t4

end Go.Proofs.Ytnodnfmgklkjeaa
