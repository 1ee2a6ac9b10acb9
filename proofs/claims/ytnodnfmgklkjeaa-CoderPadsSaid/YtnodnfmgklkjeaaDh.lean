/- Decode, with the word that its rest lies in no old block; the plain law of CoderPads. -/
import Derived.Test.YtnodnfmgklkjeaaCz
import Derived.Test.YtnodnfmgklkjeaaMz
namespace Go.Proofs.Ytnodnfmgklkjeaa
open Go.RowKit
set_option linter.unusedVariables false
attribute [local go_sem ↓] Go.wp_at_zero Go.wp_at_succ

def DecPostF (w : World) (r : Int × Int × Int × Int × List Int) (x : Ending) (w' : World) : Prop :=
  ∃ a k, x = .returned (.tuple #[.int .i64 r.2.1, .agg #[.int .u32 r.2.2.1, .int .u32 r.2.2.2.1, .slice a r.2.2.2.2.length k], .int .i64 r.1]) ∧ Rd8 w' (.slice a r.2.2.2.2.length k) r.2.2.2.2 ∧ (∀ y, y < w.heap.size → (Value.slice a r.2.2.2.2.length k).ownBlock ≠ some y) ∧ Ext w w'

set_option maxHeartbeats 1000000 in
theorem decode_fresh (wd c p : Int) (v : Value) (l : List Int) (w : World) (h : Rd8 w v l) (hc : chk wd l.length = 0) (hp : prb p = true) (hb : Bytes l) (hl0 : 0 ≤ c) (hl1 : c ≤ 4294967295) (hw1 : wd ≤ 4294967295) :
    Calls Try.prog 22 #[.agg #[.int .u32 wd, .int .u32 c, v], .int .i64 p] w fun x w' => DecPostF w (decF wd c l p) x w' := by
  obtain ⟨c1, c2⟩ := chk_zero hc
  obtain ⟨c3, c4⟩ : 1 ≤ p ∧ p ≤ 4095 := by simp [prb] at hp; omega
  have hlen2 : (dec wd c l p).2.2.length ≤ 900000 := by have := deN_len 3 (encWd wd p (decBit wd c p)) (decC wd c p) l; unfold dec; omega
  obtain ⟨R, hR⟩ : ∃ R, dec wd c l p = R := ⟨_, rfl⟩
  have hE : decF wd c l p = (0, decBit wd c p, R.1, R.2.1, R.2.2) := by unfold decF; rw [if_neg (by simp [hc]), if_neg (by simp [hp]), hR]
  rw [hE]
  rw [hR] at hlen2
  have Hk := hidden hc
  have Hp := hidden hp
  have HR := hidden hR
  clear hc hE hp hR
  obtain ⟨a, cap, rfl, h1, h2, h3⟩ := Rd.shape h
  have W0B : Blk ((w.alloc (.cells #[.int .u32 wd, .int .u32 c, .slice a l.length cap] 44)).alloc (.cells #[.int .u32 0, .int .u32 0, .slice none 0 0] 44)) w.heap.size 44 [.int .u32 wd, .int .u32 c, .slice a l.length cap] := (Blk.new w [.int .u32 wd, .int .u32 c, .slice a l.length cap] _).alloc _
  have W0Z : Blk ((w.alloc (.cells #[.int .u32 wd, .int .u32 c, .slice a l.length cap] 44)).alloc (.cells #[.int .u32 0, .int .u32 0, .slice none 0 0] 44)) (w.heap.size + 1) 44 [.int .u32 0, .int .u32 0, .slice none 0 0] := by
    have := Blk.new (w.alloc (.cells #[.int .u32 wd, .int .u32 c, .slice a l.length cap] 44)) [.int .u32 0, .int .u32 0, .slice none 0 0] 44
    rw [World.size_alloc] at this
    exact this
  have W0R : Rd8 ((w.alloc (.cells #[.int .u32 wd, .int .u32 c, .slice a l.length cap] 44)).alloc (.cells #[.int .u32 0, .int .u32 0, .slice none 0 0] 44)) (.slice a l.length cap) l := Rd.alloc (Rd.alloc h _) _
  have W0E : Ext w ((w.alloc (.cells #[.int .u32 wd, .int .u32 c, .slice a l.length cap] 44)).alloc (.cells #[.int .u32 0, .int .u32 0, .slice none 0 0] 44)) := ((Ext.refl w).alloc _).alloc _
  go_enter Try.func22, Try.ntmps22
  go_wp2_with fail
  refine (checkd_any _ _ _ l _ W0R).mono ?_
  rw [Hk.out]
  rintro e w1 ⟨rfl, g1⟩
  have W1B := W0B.ext g1
  have W1Z := W0Z.ext g1
  have pb0 := W1B.cell 0 _ rfl
  have pb1 := W1B.cell 1 _ rfl
  have pb2 := W1B.cell 2 _ rfl
  have pz0 := W1Z.cell 0 _ rfl
  have pz1 := W1Z.cell 1 _ rfl
  have pz2 := W1Z.cell 2 _ rfl
  have py0 := W1Z.frozen 0
  have py1 := W1Z.frozen 1
  have py2 := W1Z.frozen 2
  go_wp2_with fail
  refine (probable_any _ _).mono ?_
  rw [Hp.out]
  rintro e w2 ⟨rfl, rfl⟩
  go_upto_region 7 with fail
  have W2N := Blk.new w1 [.int .u32 wd, .int .u32 c, .slice a l.length cap] 83
  have W2R := Rd.alloc (W0R.ext g1) (.cells #[.int .u32 wd, .int .u32 c, .slice a l.length cap] 83)
  have W2Z := W1Z.alloc (.cells #[.int .u32 wd, .int .u32 c, .slice a l.length cap] 83)
  have gE2 : Ext w (w1.alloc (.cells #[.int .u32 wd, .int .u32 c, .slice a l.length cap] 83)) := (W0E.trans g1).alloc _
  have hs1 := g1.size
  have hz1 := W0Z.lt
  have hnb := Rd.off (W0R.ext g1) (Nat.le_refl w1.heap.size)
  go_wp2_with fail
  refine (decode_any w1.heap.size wd c p _ l hb hnb c1 hw1 hl0 hl1 c3 c4 _ W2N W2R).mono ?_
  rw [HR.out]
  rintro e w4 ⟨rfl, v4, hB4, hR4, hq4, hC4⟩
  have gC : Chg [] w w4 := (Chg.of_ext [] gE2).trans hC4 (by intro x hx; simp at hx; subst hx; exact Or.inr (by simp at hs1; omega))
  have W4Z := W2Z.chg hC4 (by simp; simp at hs1; omega)
  go_wp2_with fail
  refine (state_any w1.heap.size R.1 R.2.1 v4 R.2.2 hlen2 _ hB4 hR4).mono ?_
  rintro e w5 ⟨a5, k5, rfl, hR5, hn5, g5⟩
  have W5Z := W4Z.ext g5
  have gC5 := gC.trans (Chg.of_ext [] g5) (by simp)
  have z0 := W5Z.cell 0 _ rfl
  have z1 := W5Z.cell 1 _ rfl
  have z2 := W5Z.cell 2 _ rfl
  have y0 := W5Z.frozen 0
  have y1 := W5Z.frozen 1
  have y2 := W5Z.frozen 2
  go_wp2_with fail
  refine bodyPost_ret (v := .tuple #[.int .i64 (decBit wd c p), .agg #[.int .u32 R.1, .int .u32 R.2.1, .slice a5 R.2.2.length k5], .int .i64 0]) (by simp [results, Try.results22, go_sem, z0, z1, z2]) rfl ?_
  have hC := ((gC5.setCell (p := ⟨w.heap.size + 1, 0, none⟩) (Or.inr (by simp)) (.int .u32 R.1)).setCell (p := ⟨w.heap.size + 1, 1, none⟩) (Or.inr (by simp)) (.int .u32 R.2.1)).setCell (p := ⟨w.heap.size + 1, 2, none⟩) (Or.inr (by simp)) (.slice a5 R.2.2.length k5)
  have hD := (((Chg.refl [w.heap.size + 1] w5).setCell (p := ⟨w.heap.size + 1, 0, none⟩) (Or.inl (by simp)) (.int .u32 R.1)).setCell (p := ⟨w.heap.size + 1, 1, none⟩) (Or.inl (by simp)) (.int .u32 R.2.1)).setCell (p := ⟨w.heap.size + 1, 2, none⟩) (Or.inl (by simp)) (.slice a5 R.2.2.length k5)
  exact ⟨a5, k5, rfl, Rd.chg hR5 hD (by intro x hx _; simp at hx; subst hx; exact hn5 _ W4Z.lt), fun y hy => hn5 y (Nat.lt_of_lt_of_le hy gC.size), hC.ext⟩


/-! Two decoders beside one another: the rests are alike but for zeros behind. -/
def EqZ (a b : List Int) : Prop := ∀ i, a.getD i 0 = b.getD i 0
theorem EqZ.head {a b : List Int} (h : EqZ a b) : a.headD 0 = b.headD 0 := by
  have := h 0
  cases a <;> cases b <;> first | rfl | simpa using this
theorem tail_getD (a : List Int) (i : Nat) : a.tail.getD i 0 = a.getD (i + 1) 0 := by cases a <;> simp
theorem EqZ.tail {a b : List Int} (h : EqZ a b) : EqZ a.tail b.tail := fun i => by rw [tail_getD, tail_getD]; exact h (i + 1)
theorem EqZ.shC {a b : List Int} (h : EqZ a b) (c : Int) : shC c a = shC c b := by unfold Ytnodnfmgklkjeaa.shC; rw [h.head]
theorem EqZ.zeros (a : List Int) (n : Nat) : EqZ a (a ++ List.replicate n 0) := by
  intro i
  simp only [List.getD, List.getElem?_append]
  split
  · rfl
  · next hi =>
    rw [List.getElem?_eq_none (Nat.le_of_not_lt hi), List.getElem?_replicate]
    split <;> rfl
def Sim (s t : St) : Prop := s.1 = t.1 ∧ s.2.1 = t.2.1 ∧ EqZ s.2.2 t.2.2
theorem deN_sim : ∀ (k : Nat) (wd c : Int) (a b : List Int), EqZ a b → Sim (deN k wd c a) (deN k wd c b) := by
  intro k
  induction k with
  | zero => intro wd c a b h; exact ⟨rfl, rfl, h⟩
  | succ k ih =>
    intro wd c a b h
    unfold deN
    split
    · rw [h.shC]; exact ih _ _ _ _ h.tail
    · exact ⟨rfl, rfl, h⟩
def decS (s : St) (p : Int) : St := dec s.1 s.2.1 s.2.2 (1 + p % 4095)
def bitS (s : St) (p : Int) : Int := decBit s.1 s.2.1 (1 + p % 4095)
theorem Sim.dec {s t : St} (h : Sim s t) (p : Int) : Sim (decS s p) (decS t p) := by
  obtain ⟨h1, h2, h3⟩ := h
  unfold decS Ytnodnfmgklkjeaa.dec
  rw [h1, h2]
  exact deN_sim 3 _ _ _ _ h3
theorem Sim.bit {s t : St} (h : Sim s t) (p : Int) : bitS s p = bitS t p := by unfold bitS; rw [h.1, h.2.1]
theorem opN_sim : ∀ (k : Nat) (c : Int) (a b : List Int), EqZ a b → (opN k c a).1 = (opN k c b).1 ∧ EqZ (opN k c a).2 (opN k c b).2 := by
  intro k
  induction k with
  | zero => intro c a b h; exact ⟨rfl, h⟩
  | succ k ih => intro c a b h; simp only [opN]; rw [h.shC]; exact ih _ _ _ h.tail
theorem opF_sim {a b : List Int} (h : EqZ a b) : Sim (opF a) (opF b) := ⟨rfl, (opN_sim 4 0 a b h).1, (opN_sim 4 0 a b h).2⟩
structure DInv (m : Nat) (s : St) : Prop where
  w0 : 16777216 ≤ s.1
  w1 : s.1 ≤ 4294967295
  c0 : 0 ≤ s.2.1
  c1 : s.2.1 ≤ 4294967295
  bytes : Bytes s.2.2
  len : s.2.2.length ≤ m
theorem deN_inv : ∀ (k : Nat) (wd c : Int) (l : List Int) (m : Nat), 0 < wd → wd ≤ 4294967295 → 16777216 ≤ wd * 256 ^ k → 0 ≤ c → c ≤ 4294967295 → Bytes l → l.length ≤ m → DInv m (deN k wd c l) := by
  intro k
  induction k with
  | zero => intro wd c l m h0 h1 h2 c0 c1 hb hl; simp at h2; exact ⟨h2, h1, c0, c1, hb, hl⟩
  | succ k ih =>
    intro wd c l m h0 h1 h2 c0 c1 hb hl
    unfold deN
    split
    · next hs =>
      have hc := shC_bd c l
      refine ih _ _ _ m (by omega) (by omega) ?_ hc.1 hc.2 hb.tail (by simp; omega)
      rw [Int.emod_eq_of_lt (by omega) (by omega)]
      rw [Int.pow_succ, Int.mul_comm (256 ^ k), ← Int.mul_assoc] at h2
      exact h2
    · exact ⟨by omega, h1, c0, c1, hb, hl⟩
theorem DInv.step {m : Nat} {s : St} (h : DInv m s) (p : Int) : DInv m (decS s p) := by
  have hp0 : 1 ≤ 1 + p % 4095 := by omega
  have hp1 : 1 + p % 4095 ≤ 4095 := by omega
  have hwb := encWd_bd s.1 (1 + p % 4095) (decBit s.1 s.2.1 (1 + p % 4095)) h.w0 h.w1 hp0 hp1
  obtain ⟨b0, b1, b2⟩ := bound_bd s.1 (1 + p % 4095) (by have := h.w0; omega) h.w1 (by omega) hp1
  have c0 := h.c0
  have c1 := h.c1
  refine deN_inv 3 _ _ _ m (by omega) (by omega) (by omega) ?_ ?_ h.bytes h.len
  · unfold decC; split <;> omega
  · unfold decC; split <;> omega
theorem opN_inv : ∀ (k : Nat) (c : Int) (l : List Int) (m : Nat), 0 ≤ c → c ≤ 4294967295 → Bytes l → l.length ≤ m → 0 ≤ (opN k c l).1 ∧ (opN k c l).1 ≤ 4294967295 ∧ Bytes (opN k c l).2 ∧ (opN k c l).2.length ≤ m := by
  intro k
  induction k with
  | zero => intro c l m c0 c1 hb hl; exact ⟨c0, c1, hb, hl⟩
  | succ k ih => intro c l m c0 c1 hb hl; have hc := shC_bd c l; exact ih _ _ m hc.1 hc.2 hb.tail (by simp; omega)
theorem opF_inv (l : List Int) (m : Nat) (hb : Bytes l) (hl : l.length ≤ m) : DInv m (opF l) := by
  obtain ⟨h1, h2, h3, h4⟩ := opN_inv 4 0 l m (by decide) (by decide) hb hl
  exact ⟨show (16777216 : Int) ≤ 4294967295 by decide, show (4294967295 : Int) ≤ 4294967295 by decide, h1, h2, h3, h4⟩
theorem DInv.dec {m : Nat} {s : St} (h : DInv m s) (hm : m ≤ 1000) (p : Int) :
    decF s.1 s.2.1 s.2.2 (1 + p % 4095) = (0, bitS s p, decS s p) := by
  unfold decF
  have hc : chk s.1 s.2.2.length = 0 := by
    unfold chk
    have := h.len
    rw [if_neg (by have h := h.w0; omega), if_neg (by omega)]
  have hpr : prb (1 + p % 4095) = true := by unfold prb; simp; omega
  rw [if_neg (by simp [hc]), if_neg (by simp [hpr])]
  rfl
/-- The state behind some bits, and these bits. -/
def dRun (s : St) (ps : List Int) : St := ps.foldl decS s
theorem dRun_snoc (s : St) (ps : List Int) (p : Int) : dRun s (ps ++ [p]) = decS (dRun s ps) p := by simp [dRun]
def bitsOf (s : St) : List Int → List (Bool × Int)
  | [] => []
  | p :: ps => (decide (bitS s p = 1), p) :: bitsOf (decS s p) ps
theorem bitsOf_snoc (s : St) (ps : List Int) (p : Int) : bitsOf s (ps ++ [p]) = bitsOf s ps ++ [(decide (bitS (dRun s ps) p = 1), p)] := by
  induction ps generalizing s with
  | nil => rfl
  | cons q ps ih => simp only [List.cons_append, bitsOf, ih]; rfl
theorem bitsOf_len (s : St) (ps : List Int) : (bitsOf s ps).length = ps.length := by
  induction ps generalizing s with
  | nil => rfl
  | cons q ps ih => simp [bitsOf, ih]
theorem bitsOf_u16 (s : St) (ps : List Int) (h : ∀ p ∈ ps, 0 ≤ p ∧ p ≤ 65535) : U16 (bitsOf s ps) := by
  induction ps generalizing s with
  | nil => intro x hx; cases hx
  | cons q ps ih =>
    intro x hx
    simp only [bitsOf, List.mem_cons] at hx
    rcases hx with rfl | hx
    · exact h q (by simp)
    · exact ih (decS s q) (fun p hp => h p (by simp [hp])) x hx
theorem dRun_inv {m : Nat} {s : St} (h : DInv m s) (ps : List Int) : DInv m (dRun s ps) := by
  induction ps generalizing s with
  | nil => exact h
  | cons q ps ih => exact ih (h.step q)
theorem dRun_sim {s t : St} (h : Sim s t) (ps : List Int) : Sim (dRun s ps) (dRun t ps) := by
  induction ps generalizing s t with
  | nil => exact h
  | cons q ps ih => exact ih (h.dec q)
theorem bitS_01 (s : St) (p : Int) : bitS s p = 0 ∨ bitS s p = 1 := by unfold bitS decBit; split <;> simp
end Go.Proofs.Ytnodnfmgklkjeaa
