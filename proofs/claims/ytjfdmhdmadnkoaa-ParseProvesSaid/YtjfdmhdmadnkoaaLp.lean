/- Layer 35: Decode of the program. -/
import Derived.Test.YtjfdmhdmadnkoaaLo
namespace Go.Proofs.Ytjfdmhdmadnkoaa
open Go.RowKit
set_option linter.unusedVariables false
attribute [local go_sem ↓] Go.wp_at_zero Go.wp_at_succ

/-- An own row of tokens. -/
def OwnT (w : World) (B : Nat) (v : Value) (l : List (Int × Int × Int)) : Prop := w.ownsRow B 60 3 v l.length (l.flatMap tkc)
theorem OwnT.nil (w : World) (B : Nat) : OwnT w B (.slice none 0 0) [] := World.ownsRow_nil _ _ _ _
theorem OwnT.alloc {w : World} {B : Nat} {v : Value} {l : List (Int × Int × Int)} (h : OwnT w B v l) (o : Obj) : OwnT (w.alloc o) B v l := World.ownsRow.alloc h o
theorem OwnT.toks {w : World} {B : Nat} {v : Value} {l : List (Int × Int × Int)} (h : OwnT w B v l) : Toks w v l := Rd.of_own h
theorem tkinfo : (Try.prog.info? 60).map (fun i => (i.zero, i.size, i.bytes)) = some (some (.agg #[.int .i64 0, .int .i64 0, .int .u8 0]), 3, 24) := by kernel_rfl
theorem tkc_one (l : List (Int × Int × Int)) : ∀ u ∈ l.flatMap tkc, u.oneCell' = true := by
  intro u hu
  obtain ⟨t, -, h⟩ := List.mem_flatMap.1 hu
  simp [tkc] at h
  rcases h with rfl | rfl | rfl <;> rfl
theorem ownT_ext1 {w0 w w1 : World} (h : Ext w0 w) (o : Obj) {v : Value} {l : List (Int × Int × Int)} (hown : OwnT w w0.heap.size v l) (hgrow : (w.alloc o).grownBy w1 v.ownBlock) : Ext w0 w1 :=
  (((Chg.of_ext [] h).alloc o).grown hgrow (fun k hk => Or.inr (own_lt hown hk).1)).ext
theorem wpList_appendT {ops : Array Oper} {rest : List Oper} {o : Oper} {a : Act} {Q : Exit → Act → World → Prop} {w : World} (hgd : o.guard = none) (s x : Operand)
    (ho : o.op = .call { callee := .builtin .append, args := #[s, x], argTypes := #[24, 24] })
    (B : Nat) (v : Value) (l : List (Int × Int × Int)) (t : Int × Int × Int) (q : Nat) (hO : OwnT w B v l) (hs : a.eval s = v) (hx : a.eval x = .slice (some ⟨q, 0, none⟩) 1 1)
    (hq : Blk w q 60 (tkc t)) (hl : l.length ≤ 900000) (hB : B ≤ w.heap.size)
    (h : ∀ g cap w', OwnT w' B (.slice (some ⟨g, 0, none⟩) (l.length + 1) cap) (l ++ [t]) → w.grownBy w' v.ownBlock → (v.ownBlock = some g ∨ g = w.heap.size) → g < w'.heap.size →
      wpList Try.prog ops Q rest (a.put o.dst (.slice (some ⟨g, 0, none⟩) (l.length + 1) cap)) w') : wpList Try.prog ops Q (o :: rest) a w := by
  obtain ⟨i0, hi, hz0, hz1, hz2⟩ := info_parts tkinfo
  refine wpList_append_lies w hgd s x 24 ho B 60 i0 (.agg #[.int .i64 0, .int .i64 0, .int .u8 0]) 3 24 Try.underlying24 hi hz0 hz1 hz2 rfl (by decide) v l.length (l.flatMap tkc) hs hO ⟨q, 0, none⟩ 1 1 (tkc t) hx rfl ?_ (by intro u hu; exact tkc_one [t] u (by simpa using hu)) (by omega) (by unfold maxLen; omega) (by omega) hB w.heap.size rfl ?_
  · intro j u hu
    match j, hu with
    | 0, hu => exact hq.cell 0 u hu
    | 1, hu => exact hq.cell 1 u hu
    | 2, hu => exact hq.cell 2 u hu
    | j + 3, hu => simp [tkc] at hu
  · intro g cap w' h1 h2 h3 h4
    refine h g cap w' ?_ h2 h3 h4
    unfold OwnT
    rw [List.flatMap_append, List.length_append, List.length_singleton, show List.flatMap tkc [t] = tkc t by simp]
    exact h1

/-- The factorization with an encoding, from a place on; so many tokens at most. -/
def deF (D : List Int) : Nat → Nat → Int → Int × List (Int × Int × Int)
  | 0, _, _ => (99, [])
  | f + 1, a, n =>
    if endF D a then (0, [])
    else if (nxF D a).1 ≠ 0 then ((nxF D a).1, [])
    else if ckT (nxF D a).2.1 n ≠ 0 then (ckT (nxF D a).2.1 n, [])
    else if (deF D f (nxF D a).2.2.toNat (n + szT (nxF D a).2.1)).1 ≠ 0 then ((deF D f (nxF D a).2.2.toNat (n + szT (nxF D a).2.1)).1, [])
    else (0, (nxF D a).2.1 :: (deF D f (nxF D a).2.2.toNat (n + szT (nxF D a).2.1)).2)
def comb (out : List (Int × Int × Int)) (r : Int × List (Int × Int × Int)) : Int × List (Int × Int × Int) := if r.1 ≠ 0 then (r.1, []) else (0, out ++ r.2)
theorem comb_end {D : List Int} {f a : Nat} {n : Int} (out : List (Int × Int × Int)) (h : endF D a) : comb out (deF D (f + 1) a n) = (0, out) := by
  rw [deF, if_pos h]
  simp [comb]
theorem comb_err {D : List Int} {f a : Nat} {n : Int} (out : List (Int × Int × Int)) (h : ¬ endF D a) (h2 : (nxF D a).1 ≠ 0) : comb out (deF D (f + 1) a n) = ((nxF D a).1, []) := by
  rw [deF, if_neg h, if_pos h2]
  simp [comb, h2]
theorem comb_bad {D : List Int} {f a : Nat} {n : Int} (out : List (Int × Int × Int)) (h : ¬ endF D a) (h2 : (nxF D a).1 = 0) (h3 : ckT (nxF D a).2.1 n ≠ 0) : comb out (deF D (f + 1) a n) = (ckT (nxF D a).2.1 n, []) := by
  rw [deF, if_neg h, if_neg (by simp [h2]), if_pos h3]
  simp [comb, h3]
theorem comb_next {D : List Int} {f a : Nat} {n : Int} (out : List (Int × Int × Int)) (h : ¬ endF D a) (h2 : (nxF D a).1 = 0) (h3 : ckT (nxF D a).2.1 n = 0) :
    comb out (deF D (f + 1) a n) = comb (out ++ [(nxF D a).2.1]) (deF D f (nxF D a).2.2.toNat (n + szT (nxF D a).2.1)) := by
  rw [deF, if_neg h, if_neg (by simp [h2]), if_neg (by simp [h3])]
  by_cases h4 : (deF D f (nxF D a).2.2.toNat (n + szT (nxF D a).2.1)).1 = 0
  · rw [if_neg (by simp [h4])]
    unfold comb
    rw [if_neg (by simp), if_neg (by simp [h4])]
    simp
  · rw [if_pos h4]
    unfold comb
    rw [if_pos h4, if_pos h4]
def decF (D : List Int) : Int × List (Int × Int × Int) := deF D (8 * D.length + 1) 0 0
theorem nxF_ok {D : List Int} (hb : Bytes D) (hl : D.length ≤ 65536) {a : Nat} (h : (nxF D a).1 = 0) : (a : Int) < (nxF D a).2.2 ∧ (nxF D a).2.2 ≤ ((8 * D.length : Nat) : Int) := by
  unfold nxF at h ⊢
  split at h
  · next h1 => exact absurd h h1
  · next h1 =>
    rw [if_neg h1]
    split at h
    · next h2 =>
      rw [if_pos h2]
      have := getF_ok h
      simp only
      omega
    · next h2 =>
      rw [if_neg h2]
      split at h
      · next h3 => exact absurd h h3
      · next h3 =>
        rw [if_neg h3]
        obtain ⟨-, -, g1, g2⟩ := gmF_ok hb hl (Classical.not_not.1 h3)
        obtain ⟨-, -, g3, g4⟩ := gmF_ok hb hl h
        simp only
        omega
theorem nxF_bd {D : List Int} (hb : Bytes D) (hl : D.length ≤ 65536) (a : Nat) : (0 ≤ (nxF D a).2.1.1 ∧ (nxF D a).2.1.1 ≤ 4294967296) ∧ (0 ≤ (nxF D a).2.1.2.1 ∧ (nxF D a).2.1.2.1 ≤ 4294967295) ∧ 0 ≤ (nxF D a).2.1.2.2 ∧ (nxF D a).2.1.2.2 ≤ 255 := by
  unfold nxF
  split
  · exact ⟨⟨by simp, by simp⟩, ⟨by simp, by simp⟩, by simp, by simp⟩
  · split
    · have := getF_bd D (a + 1) 8
      exact ⟨⟨by simp, by simp⟩, ⟨by simp, by simp⟩, this.1, by simp only; omega⟩
    · split
      · exact ⟨⟨by simp, by simp⟩, ⟨by simp, by simp⟩, by simp, by simp⟩
      · have h1 := rgF_bd hb hl (a + 1)
        have h2 := rgF_bd hb hl (gmF D (a + 1) 254).2.2.toNat
        refine ⟨⟨?_, ?_⟩, ⟨h2.1, h2.2.1⟩, by simp, by simp⟩
        · show 0 ≤ (rgF D ((8 * D.length : Nat) : Int) ((a + 1 : Nat) : Int)).2.1 + 1
          omega
        · show (rgF D ((8 * D.length : Nat) : Int) ((a + 1 : Nat) : Int)).2.1 + 1 ≤ _
          omega

/-- What Decode leaves. -/
def DePost (w : World) (r : Int × List (Int × Int × Int)) (x : Ending) (w' : World) : Prop :=
  ∃ v', x = .returned (.tuple #[v', .int .i64 r.1]) ∧ OwnT w' w.heap.size v' r.2 ∧ Ext w w'

set_option maxRecDepth 100000 in
set_option maxHeartbeats 2000000 in
theorem ldecode_any (v : Value) (D : List Int) (hb : Bytes D) (hl : D.length ≤ 65536) (w : World) (h : Rd8 w v D) :
    Calls Try.prog 47 #[v] w (DePost w (decF D)) := by
  have hcd : Hid (comb [] (decF D) = decF D) := by
    show _ = _
    unfold comb
    split
    · next h1 =>
      have : (decF D).2 = [] := by
        unfold decF at h1 ⊢
        rw [deF] at h1 ⊢
        (repeat' split at h1) <;> simp_all
      rw [← this]
    · next h1 => rw [List.nil_append, ← Classical.not_not.1 h1]
  obtain ⟨ad, cap, rfl, q1, q2, q3⟩ := Rd.shape h
  obtain ⟨c, hc⟩ : ∃ c, 8 * D.length = c := ⟨_, rfl⟩
  obtain ⟨m, hm⟩ : ∃ m, D.length = m := ⟨_, rfl⟩
  have hm8 : m ≤ 65536 := by omega
  have hce : Hid (decF D = deF D (c + 1) 0 0) := hidden (by unfold decF; rw [hc])
  have S0 : Rstm (w.alloc (.cells #[.slice ad m cap, .int .i64 (8 * (m : Int)), .int .i64 0] 93)) w.heap.size (.slice ad m cap) D 0 := by
    refine ⟨?_, by rw [← hm]; exact Rd.alloc h _⟩
    have := Blk.new w [.slice ad m cap, .int .i64 (8 * (m : Int)), .int .i64 0] 93
    rw [show ((8 * D.length : Nat) : Int) = 8 * (m : Int) by omega]
    exact this
  have hEn := fun a ha W (hS : Rstm W w.heap.size (.slice ad m cap) D a) => ended_any w.heap.size (.slice ad m cap) D a hb hl ha W hS
  have hNx := fun a ha W (hS : Rstm W w.heap.size (.slice ad m cap) D a) => next_any w.heap.size (.slice ad m cap) D a hb hl ha W hS
  rw [hm] at q1 ⊢
  obtain ⟨R, hR⟩ : ∃ R, decF D = R := ⟨_, rfl⟩
  rw [hR]
  replace hR := hidden hR
  replace hEn := hidden hEn
  replace hNx := hidden hNx
  replace S0 := hidden S0
  replace hm := hidden hm
  replace hc := hidden hc
  replace hb := hidden hb
  have hR0 : Hid (Rd8 w (.slice ad m cap) D) := hidden (by rw [← hm.out]; exact h)
  have hE0 : Hid (Ext w (w.alloc (.cells #[.slice ad m cap, .int .i64 (8 * (m : Int)), .int .i64 0] 93))) := hidden ((Ext.refl w).alloc _)
  clear h hl
  go_enter Try.func47, Try.ntmps47
  go_wp2_with fail
  go_loopw [5, 6] (fun s i wr => ∃ (a f : Nat) (z : Int) (out : List (Int × Int × Int)) (a5 : Option Addr) (m5 c5 : Nat), s = .slice a5 m5 c5 ∧ i = .int .i64 z ∧ 0 ≤ z ∧ z ≤ 65536 ∧ (m5 : Int) ≤ z ∧ Hid (out.length = m5) ∧ Hid (a ≤ 8 * D.length) ∧ Hid (8 * D.length < a + f) ∧ Hid (Rstm wr w.heap.size (.slice ad m cap) D a) ∧ Hid (OwnT wr w.heap.size (.slice a5 m5 c5) out) ∧ Hid (R = comb out (deF D f a z)) ∧ w.heap.size < wr.heap.size ∧ Ext w wr) (fun _ i _ => (65537 - intOf i).toNat)
  case atStart => exact ⟨0, c + 1, 0, [], none, 0, 0, rfl, rfl, by omega, by omega, by omega, rfl, hidden (by omega), hidden (by have := hc.out; omega), S0, hidden (OwnT.nil _ _), by show _ = _; rw [← hR.out, ← hce.out, hcd.out], by simp, hE0.out⟩
  case round =>
    obtain ⟨a, f, z, out, a5, m5, c5, rfl, rfl, z0, z1, z2, hol, ha, hf, hS, hO, hRc, hlt, hX⟩ := hrel
    obtain ⟨W, hWW⟩ : ∃ Z, Z = wr := ⟨_, rfl⟩
    subst hWW
    obtain ⟨f', rfl⟩ : ∃ f', f = f' + 1 := ⟨f - 1, by have := ha.out; have := hf.out; omega⟩
    by_cases he : endF D a
    · have he1 : Hid (decide (endF D a) = true) := hidden (by simp [he])
      have hfin : Hid (R = (0, out)) := hidden (by rw [hRc.out, comb_end out he])
      clear he hRc
      go_wp2_with fail
      refine (hEn.out a ha.out _ hS.out).mono ?_
      rw [he1.out]
      rintro e w1 ⟨rfl, g1⟩
      go_wp2_with fail
      go_ret2
      rw [hfin.out]
      exact ⟨_, rfl, own_ext hO.out g1, hX.trans g1⟩
    · have he1 : Hid (decide (endF D a) = false) := hidden (by simp [he])
      have hbd := nxF_bd hb.out (by have := hm.out; omega) a
      have hok := fun e => nxF_ok hb.out (by have := hm.out; omega) (a := a) e
      have h1 := fun h2 => hRc.out.trans (comb_err out he h2)
      have h2 := fun h2 h3 => hRc.out.trans (comb_bad out he h2 h3)
      have h3 := fun h2 h3 => hRc.out.trans (comb_next out he h2 h3)
      have hN := hNx.out a ha.out
      obtain ⟨e0, ⟨L, Ds, B⟩, a', hnx⟩ : ∃ e t a', nxF D a = (e, t, a') := ⟨_, _, _, rfl⟩
      rw [hnx] at hbd hok h1 h2 h3 hN
      simp only at hbd hok h1 h2 h3
      obtain ⟨⟨b0, b1⟩, ⟨b2, b3⟩, b4, b5⟩ := hbd
      replace hN := hidden hN
      clear he hnx hRc
      by_cases k1 : e0 = 0
      · subst k1
        obtain ⟨o1, o2⟩ := hok rfl
        have hck := lcheck_any L Ds B z z0 z1 (by omega)
        have hsz := lsize_any L Ds B
        have hb2 := fun e : ckT (L, Ds, B) z = 0 => (ckT_ok e).2.2
        have hsp := szT_pos (L, Ds, B)
        replace h2 := h2 rfl
        replace h3 := h3 rfl
        clear h1 hok
        obtain ⟨y, hy⟩ : ∃ y, szT (L, Ds, B) = y := ⟨_, rfl⟩
        rw [hy] at hb2 hsp
        simp only [hy] at h3 hsz
        obtain ⟨q, hq⟩ : ∃ q, ckT (L, Ds, B) z = q := ⟨_, rfl⟩
        rw [hq] at hb2 h2 h3
        simp only [hq] at hck
        replace hck := hidden hck
        replace hsz := hidden hsz
        have ho1 := hidden (show (a : Int) < a' from o1)
        have ho2 := hidden (show a' ≤ ((8 * D.length : Nat) : Int) from o2)
        clear hy hq o1 o2
        by_cases k2 : q = 0
        · subst k2
          have hb3 := hb2 rfl
          replace h3 := hidden (h3 rfl)
          clear h2 hb2
          have hml : m5 ≤ 70000 := by omega
          go_wp2_with fail
          refine (hEn.out a ha.out _ hS.out).mono ?_
          rw [he1.out]
          rintro e w1 ⟨rfl, g1⟩
          have S1 := hS.out.moved g1
          go_wp2_with fail
          refine (hN.out _ S1).mono ?_
          rintro e w2 ⟨he2, P2⟩
          change e = .returned (.tuple #[.agg #[.int .i64 L, .int .i64 Ds, .int .u8 B], .int .i64 0]) at he2
          subst he2
          have S2 := S1.step P2 (b := a'.toNat) (by show a' = ((a'.toNat : Nat) : Int); have := ho1.out; omega)
          have hX2 : Ext w w2 := Ext.chg_far (hX.trans g1) P2.2 (by simp)
          have O2 : OwnT w2 w.heap.size (.slice a5 m5 c5) out := own_chg (own_ext hO.out g1) P2.2 (by intro x hx; simp at hx; subst hx; exact own_ne_blk (own_ext hO.out g1) S1.blk (by decide))
          have hsz2 := hX2.size
          have hl2 : w.heap.size < w2.heap.size := by have := P2.1.lt; exact this
          replace S1 := hidden S1
          replace S2 := hidden S2
          replace O2 := hidden O2
          replace P2 := hidden P2
          go_wp2_with fail
          refine (hck.out _).mono ?_
          rintro e w3 ⟨rfl, g3⟩
          obtain ⟨⟨d0, d1, d2⟩, g3'⟩ := tk_box g3
          have O3 : OwnT w3 w.heap.size (.slice a5 m5 c5) out := own_ext O2.out g3'
          have S3 := S2.out.moved g3'
          have hX3 := hX2.trans g3'
          have hB3 : Blk w3 w2.heap.size 60 [.int .i64 L, .int .i64 Ds, .int .u8 B] := (Blk.new w2 [.int .i64 L, .int .i64 Ds, .int .u8 B] 60).ext g3
          have hq3 := Blk.new w3 [.int .i64 L, .int .i64 Ds, .int .u8 B] 60
          have hs3 : w.heap.size ≤ (w3.alloc (.cells #[.int .i64 L, .int .i64 Ds, .int .u8 B] 60)).heap.size := by rw [World.size_alloc]; have := hX3.size; omega
          replace O3 := hidden O3
          replace S3 := hidden S3
          replace hB3 := hidden hB3
          replace hq3 := hidden hq3
          go_wp2_with (at_builtin; refine wpList_appendT (by rfl) _ _ (by rfl) w.heap.size (.slice a5 m5 c5) out (L, Ds, B) w3.heap.size (OwnT.alloc O3.out _) (by rfl) (by rfl) hq3.out (by rw [hol.out]; omega) hs3 ?_; rw [hol.out]; intro g cap' w4 hO4 hg4 hat4 hlt4; have B4 := (hB3.out.alloc (.cells #[.int .i64 L, .int .i64 Ds, .int .u8 B] 60)).grown hg4 (fun e => by have h4 := own_lt (own_ext O2.out (Ext.refl _)) e; omega); have d0' := B4.cell 0 _ rfl; have d1' := B4.cell 1 _ rfl; have d2' := B4.cell 2 _ rfl)
          have hX4 : Ext w w4 := ownT_ext1 hX3 _ O3.out hg4
          have hr4 := Rd.ext hR0.out hX4
          have hb4 := (S3.out.blk.alloc (.cells #[.int .i64 L, .int .i64 Ds, .int .u8 B] 60)).grown hg4 (fun e => own_ne_blk O3.out S3.out.blk (by decide) e)
          have S4 : Rstm w4 w.heap.size (.slice ad m cap) D a'.toNat := ⟨hb4, hr4⟩
          have hs4 := hX4.size
          have hl4 : w.heap.size < w4.heap.size := hb4.lt
          replace S4 := hidden S4
          replace hO4 := hidden hO4
          clear hr4 hb4 B4
          go_wp2_with fail
          refine (hsz.out _).mono ?_
          rintro e w5 ⟨rfl, g5⟩
          have hX5 := hX4.trans g5
          have hs5 := hX5.size
          have hl5 : w.heap.size < w5.heap.size := Nat.lt_of_lt_of_le hl4 g5.size
          go_wp2_with fail
          go_round
          case rel => exact ⟨a'.toNat, f', z + y, out ++ [(L, Ds, B)], _, m5 + 1, _, rfl, rfl, by omega, by omega, by omega, hidden (by simp [hol.out]), hidden (by have := ho2.out; omega), hidden (by have := ho1.out; have := hf.out; omega), hidden (S4.out.moved g5), hidden (own_ext hO4.out g5), hidden h3.out, hl5, hX5⟩
          case measure => simp [intOf]; omega
        · replace h2 := hidden (h2 k2)
          have hq1 : (q != 0) = true := by simp [k2]
          have hq2 : (q == 0) = false := by simp [k2]
          clear h3 hb2 k2
          go_wp2_with fail
          refine (hEn.out a ha.out _ hS.out).mono ?_
          rw [he1.out]
          rintro e w1 ⟨rfl, g1⟩
          have S1 := hS.out.moved g1
          go_wp2_with fail
          refine (hN.out _ S1).mono ?_
          rintro e w2 ⟨he2, P2⟩
          change e = .returned (.tuple #[.agg #[.int .i64 L, .int .i64 Ds, .int .u8 B], .int .i64 0]) at he2
          subst he2
          have hX2 : Ext w w2 := Ext.chg_far (hX.trans g1) P2.2 (by simp)
          replace S1 := hidden S1
          replace P2 := hidden P2
          go_wp2_with fail
          refine (hck.out _).mono ?_
          rintro e w3 ⟨rfl, g3⟩
          obtain ⟨⟨d0, d1, d2⟩, g3'⟩ := tk_box g3
          go_wp2_with fail
          go_ret2
          rw [h2.out]
          exact ⟨_, rfl, OwnT.nil _ _, hX2.trans g3'⟩
      · replace h1 := hidden (h1 k1)
        have hq1 : (e0 != 0) = true := by simp [k1]
        have hq2 : (e0 == 0) = false := by simp [k1]
        clear h2 h3 hok k1
        go_wp2_with fail
        refine (hEn.out a ha.out _ hS.out).mono ?_
        rw [he1.out]
        rintro e w1 ⟨rfl, g1⟩
        have S1 := hS.out.moved g1
        go_wp2_with fail
        refine (hN.out _ S1).mono ?_
        rintro e w2 ⟨he2, P2⟩
        change e = .returned (.tuple #[.agg #[.int .i64 L, .int .i64 Ds, .int .u8 B], .int .i64 e0]) at he2
        subst he2
        have hX2 : Ext w w2 := Ext.chg_far (hX.trans g1) P2.2 (by simp)
        replace S1 := hidden S1
        replace P2 := hidden P2
        go_wp2_with fail
        go_ret2
        rw [h1.out]
        exact ⟨_, rfl, OwnT.nil _ _, hX2.trans ((Ext.refl _).alloc _)⟩
end Go.Proofs.Ytjfdmhdmadnkoaa
