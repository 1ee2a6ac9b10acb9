/- Layer 35: the statements LzEncodes, LzSearches, LzRestores, LzOnce. -/
import Derived.Test.YtlnlffmlficjnaaLx
import Derived.Test.YtlnlffmlficjnaaLl
import Derived.Test.YtlnlffmlficjnaaLr
import Derived.Test.YtlnlffmlficjnaaLg
namespace Go.Proofs.Ytlnlffmlficjnaa
open Go.RowKit
set_option linter.unusedVariables false
attribute [local go_sem ↓] Go.wp_at_zero Go.wp_at_succ

theorem few_any (a : Option Addr) (n c : Nat) (w : World) : Calls Try.prog 11 #[.slice a n c] w fun x w' => x = .returned (.bool (decide (n ≤ 60))) ∧ Ext w w' := by
  by_cases k : n ≤ 60
  · go_enter Try.func11, Try.ntmps11
    go_wp2_with fail
    go_ret
    exact ⟨ret_bool (by simp; omega), Ext.refl _⟩
  · go_enter Try.func11, Try.ntmps11
    go_wp2_with fail
    go_ret
    exact ⟨ret_bool (by simp; omega), Ext.refl _⟩

set_option maxHeartbeats 2000000 in
theorem LzEncodes_law (v : Value) (l : List (Int × Int × Int)) (hok : OkTs l) (w : World) (h : Toks w v l) :
    Calls Try.prog 4 #[v] w fun x w' => x = .returned (.bool true) ∧ Ext w w' := by
  have haw := hidden awake_any
  obtain ⟨a, cap, rfl, q1, q2, q3⟩ := Rd.shape h
  have hfe := few_any a l.length cap
  have c1 := fun (hn : l.length ≤ 60) W hW => lencode_any (.slice a l.length cap) l hok (by omega) W hW
  have c2 := fun (hn : l.length ≤ 60) W hW => rencode_any (.slice a l.length cap) l hok (by omega) W hW
  obtain ⟨⟨e, D⟩, hE⟩ : ∃ r, encF l = r := ⟨_, rfl⟩
  simp only [hE] at c1 c2
  obtain ⟨n, hn⟩ : ∃ n, l.length = n := ⟨_, rfl⟩
  rw [hn] at hfe c1 c2 q1 ⊢
  have H : Hid (Toks w (.slice a n cap) l) := hidden (by rw [← hn]; exact h)
  clear h hE hn
  by_cases k : n ≤ 60
  · replace c1 := hidden (c1 k)
    replace c2 := hidden (c2 k)
    simp only [k, decide_true] at hfe
    replace hfe := hidden hfe
    go_enter Try.func4, Try.ntmps4
    go_wp2_with fail
    refine (hfe.out _).mono ?_
    rintro e1 w1 ⟨rfl, g1⟩
    have H1 := hidden (Rd.ext H.out g1)
    go_wp2_with fail
    refine (c1.out _ H1.out).mono ?_
    rintro e1 w2 ⟨v2, rfl, O2, g2⟩
    obtain ⟨a2, k2, rfl, -, -, -⟩ := Rd.shape O2.rd
    have H2 := hidden (Rd.ext H1.out g2)
    replace O2 := hidden O2
    go_wp2_with fail
    refine (c2.out _ H2.out).mono ?_
    rintro e1 w3 ⟨v3, rfl, O3, g3⟩
    obtain ⟨a3, k3, rfl, -, -, -⟩ := Rd.shape O3
    have hX3 := (g1.trans g2).trans g3
    replace O3 := hidden O3
    replace g3 := hidden g3
    go_wp2_with fail
    refine (haw.out _).mono ?_
    rintro e1 w4 ⟨rfl, g4⟩
    have h1 := str_of (Rd.ext (Rd.ext O2.out.rd g3.out) g4)
    have h2 := str_of (Rd.ext O3.out g4)
    go_wp2_with fail
    go_ret
    exact ⟨ret_bool (by simp), hX3.trans g4⟩
  · simp only [k, decide_false] at hfe
    replace hfe := hidden hfe
    clear c1 c2
    go_enter Try.func4, Try.ntmps4
    go_wp2_with fail
    refine (hfe.out _).mono ?_
    rintro e1 w1 ⟨rfl, g1⟩
    go_wp2_with fail
    refine (haw.out _).mono ?_
    rintro e1 w4 ⟨rfl, g4⟩
    go_wp2_with fail
    go_ret
    exact ⟨rfl, g1.trans g4⟩

set_option maxRecDepth 100000 in
set_option maxHeartbeats 4000000 in
theorem LzRestores_law (v : Value) (D : List Int) (hb : Bytes D) (w : World) (h : Rd8 w v D) :
    Calls Try.prog 5 #[v] w fun x w' => x = .returned (.bool true) ∧ Ext w w' := by
  have haw := hidden awake_any
  obtain ⟨a, cap, rfl, q1, q2, q3⟩ := Rd.shape h
  by_cases k : 300 < D.length
  · obtain ⟨n, hn⟩ : ∃ n, D.length = n := ⟨_, rfl⟩
    rw [hn] at k q1 ⊢
    clear h hb hn
    go_enter Try.func5, Try.ntmps5
    go_wp2_with fail
    refine (haw.out _).mono ?_
    rintro e1 w1 ⟨rfl, g1⟩
    go_wp2_with fail
    go_ret
    exact ⟨rfl, g1⟩
  · have hgr : grF D = (0, gre D D.length 0) := by unfold grF; rw [if_neg (by omega)]
    have hle := gre_len D D.length 0
    have hok := gre_okT hb D.length 0
    have hck := gre_ck hb (by omega) D.length 0
    have hex := exF_gre hb D.length 0 (by omega) (by omega)
    obtain ⟨l, hl⟩ : ∃ l, gre D D.length 0 = l := ⟨_, rfl⟩
    rw [hl] at hgr hle hok hck hex
    have hcf : chkF l = 0 := by unfold chkF; rw [if_neg (by omega)]; exact hck
    have hsp := sumP_bd l
    have hxf : expF l = (0, D) := by unfold expF; rw [if_neg (by simp [hcf])]; simp only [List.take_zero] at hex; rw [hex]
    have hef : encF l = (0, pshs [] 0 (tbs l)) := by unfold encF; rw [if_neg (by simp [hcf]), if_neg (by omega)]
    have hdf := dec_enc l hok hcf (by omega)
    have hwf := WF.pshs WF.nil (tbs_01 l)
    have htl := tbs_len l (chkF_right hcf)
    have hpl := hwf.len
    have hpb := hwf.bytes
    rw [Nat.zero_add] at hpl
    obtain ⟨E, hE⟩ : ∃ E, pshs [] 0 (tbs l) = E := ⟨_, rfl⟩
    rw [hE] at hef hdf hpl hpb
    have hEl : E.length ≤ 65536 := by omega
    have hll : l.length ≤ 300 := by omega
    have c1 := fun W hW => lgreedy_any (.slice a D.length cap) D hb (by omega) W hW
    rw [hgr] at c1
    replace c1 := hidden c1
    have c2 := fun u W hW => lexpand_any u l hok W hW
    rw [hxf] at c2
    replace c2 := hidden c2
    have c3 := fun u W hW => lencode_any u l hok (by omega) W hW
    rw [hef] at c3
    replace c3 := hidden c3
    have c4 := fun u W hW => ldecode_any u E hpb hEl W hW
    rw [hdf] at c4
    replace c4 := hidden c4
    obtain ⟨n, hn⟩ : ∃ n, D.length = n := ⟨_, rfl⟩
    have H : Hid (Rd8 w (.slice a n cap) D) := hidden (by rw [← hn]; exact h)
    rw [hn] at k q1 c1 ⊢
    clear h hb hgr hle hok hck hex hl hcf hsp hxf hef hdf hwf htl hpl hpb hE hEl hn
    replace hll := hidden hll
    go_enter Try.func5, Try.ntmps5
    go_wp2_with fail
    refine (c1.out _ H.out).mono ?_
    rintro e1 w1 ⟨v1, rfl, O1, g1⟩
    have T1 : Hid (Toks w1 v1 l) := hidden O1.toks
    have H1 : Hid (Rd8 w1 (.slice a n cap) D) := hidden (Rd.ext H.out g1)
    obtain ⟨a1, k1, rfl, -, -, -⟩ := Rd.shape T1.out
    have X1 := hidden g1
    clear O1 g1 H
    go_wp2_with fail
    refine (c2.out _ _ T1.out).mono ?_
    rintro e1 w2 ⟨v2, rfl, O2, g2⟩
    have R2 : Hid (Rd8 w2 v2 D) := hidden O2.rd
    have T2 := hidden (Rd.ext T1.out g2)
    have H2 : Hid (Rd8 w2 (.slice a n cap) D) := hidden (Rd.ext H1.out g2)
    obtain ⟨a2, k2, rfl, -, -, -⟩ := Rd.shape R2.out
    have X2 := hidden (X1.out.trans g2)
    clear O2 g2 H1 X1 T1
    go_wp2_with fail
    refine (c3.out _ _ T2.out).mono ?_
    rintro e1 w3 ⟨v3, rfl, O3, g3⟩
    have S3 : Hid (Rd8 w3 v3 E) := hidden O3.rd
    have R3 : Hid (Rd8 w3 (.slice a2 D.length k2) D) := hidden (Rd.ext R2.out g3)
    have T3 := hidden (Rd.ext T2.out g3)
    have H3 : Hid (Rd8 w3 (.slice a n cap) D) := hidden (Rd.ext H2.out g3)
    obtain ⟨a3, k3, rfl, -, -, -⟩ := Rd.shape S3.out
    have X3 := hidden (X2.out.trans g3)
    clear O3 g3 H2 X2 T2 R2
    go_wp2_with fail
    refine (c4.out _ _ S3.out).mono ?_
    rintro e1 w4 ⟨v4, rfl, O4, g4⟩
    have U4 : Hid (Toks w4 v4 l) := hidden O4.toks
    have R4 : Hid (Rd8 w4 (.slice a2 D.length k2) D) := hidden (Rd.ext R3.out g4)
    have T4 := hidden (Rd.ext T3.out g4)
    have H4 : Hid (Rd8 w4 (.slice a n cap) D) := hidden (Rd.ext H3.out g4)
    obtain ⟨a4, k4, rfl, -, -, -⟩ := Rd.shape U4.out
    have X4 := hidden (X3.out.trans g4)
    clear O4 g4 H3 X3 T3 R3 S3
    go_wp2_with fail
    refine (haw.out _).mono ?_
    rintro e1 w5 ⟨rfl, g5⟩
    have h1 := str_of (Rd.ext R4.out g5 : Rd8 w5 (.slice a2 D.length k2) D)
    have h2 := str_of (Rd.ext H4.out g5 : Rd8 w5 (.slice a n cap) D)
    have T5 : Hid (Toks w5 (.slice a1 l.length k1) l) := hidden (Rd.ext T4.out g5)
    have U5 : Hid (Toks w5 (.slice a4 l.length k4) l) := hidden (Rd.ext U4.out g5)
    have X5 := hidden (X4.out.trans g5)
    clear g5
    go_wp2_with fail
    refine (sameT_any _ _ l l (by have := hll.out; omega) (by have := hll.out; omega) _ T5.out U5.out).mono ?_
    rintro e1 w6 ⟨rfl, g6⟩
    go_wp2_with fail
    go_ret
    exact ⟨ret_bool (by simp), X5.out.trans g6⟩

set_option maxRecDepth 100000 in
set_option maxHeartbeats 4000000 in
theorem LzOnce_law (v : Value) (D : List Int) (hb : Bytes D) (w : World) (h : Rd8 w v D) :
    Calls Try.prog 7 #[v] w fun x w' => x = .returned (.bool true) ∧ Ext w w' := by
  have haw := hidden awake_any
  obtain ⟨a, cap, rfl, q1, q2, q3⟩ := Rd.shape h
  by_cases k : 300 < D.length
  · obtain ⟨n, hn⟩ : ∃ n, D.length = n := ⟨_, rfl⟩
    rw [hn] at k q1 ⊢
    clear h hb hn
    go_enter Try.func7, Try.ntmps7
    go_wp2_with fail
    refine (haw.out _).mono ?_
    rintro e1 w1 ⟨rfl, g1⟩
    go_wp2_with fail
    go_ret
    exact ⟨rfl, g1⟩
  · have c1 := fun W hW => ldecode_any (.slice a D.length cap) D hb (by omega) W hW
    have hed := fun l => enc_dec (D := D) hb (by omega) l
    have hde : (decF D).1 ≠ 0 → (decF D).2 = [] := fun h1 => by
      unfold decF at h1 ⊢
      rw [deF] at h1 ⊢
      (repeat' split at h1) <;> simp_all
    obtain ⟨⟨e, l⟩, hE⟩ : ∃ r, decF D = r := ⟨_, rfl⟩
    rw [hE] at c1 hed hde
    simp only at hde
    by_cases ke : e = 0
    · subst ke
      obtain ⟨u1, u2, u3, u4, u5⟩ := hed l rfl
      have hef : encF l = (0, D) := by unfold encF; rw [if_neg (by simp [u1]), if_neg (by omega), u5]
      have hll : l.length ≤ 800 := by omega
      have c2 := fun u W hW => lencode_any u l u2 (by omega) W hW
      rw [hef] at c2
      have c3 := fun u W hW => lchk_any u l u2 W hW
      rw [u1] at c3
      replace c1 := hidden c1
      replace c2 := hidden c2
      replace c3 := hidden c3
      obtain ⟨n, hn⟩ : ∃ n, D.length = n := ⟨_, rfl⟩
      have H : Hid (Rd8 w (.slice a n cap) D) := hidden (by rw [← hn]; exact h)
      rw [hn] at k q1 c1 ⊢
      clear h hb hed hde hE u1 u2 u3 u4 u5 hef hn hll
      go_enter Try.func7, Try.ntmps7
      go_wp2_with fail
      refine (c1.out _ H.out).mono ?_
      rintro e1 w1 ⟨v1, rfl, O1, g1⟩
      have T1 : Hid (Toks w1 v1 l) := hidden O1.toks
      have H1 : Hid (Rd8 w1 (.slice a n cap) D) := hidden (Rd.ext H.out g1)
      obtain ⟨a1, k1, rfl, -, -, -⟩ := Rd.shape T1.out
      have X1 := hidden g1
      clear O1 g1 H
      go_wp2_with fail
      refine (c2.out _ _ T1.out).mono ?_
      rintro e1 w2 ⟨v2, rfl, O2, g2⟩
      have R2 : Hid (Rd8 w2 v2 D) := hidden O2.rd
      have T2 : Hid (Toks w2 (.slice a1 l.length k1) l) := hidden (Rd.ext T1.out g2)
      have H2 : Hid (Rd8 w2 (.slice a n cap) D) := hidden (Rd.ext H1.out g2)
      obtain ⟨a2, k2, rfl, -, -, -⟩ := Rd.shape R2.out
      have X2 := hidden (X1.out.trans g2)
      clear O2 g2 H1 X1 T1
      go_wp2_with fail
      refine (haw.out _).mono ?_
      rintro e1 w5 ⟨rfl, g5⟩
      have h1 := str_of (Rd.ext R2.out g5 : Rd8 w5 (.slice a2 D.length k2) D)
      have h2 := str_of (Rd.ext H2.out g5 : Rd8 w5 (.slice a n cap) D)
      have T5 : Hid (Toks w5 (.slice a1 l.length k1) l) := hidden (Rd.ext T2.out g5)
      have X5 := hidden (X2.out.trans g5)
      clear g5
      go_wp2_with fail
      refine (c3.out _ _ T5.out).mono ?_
      rintro e1 w6 ⟨rfl, g6⟩
      go_wp2_with fail
      go_ret
      exact ⟨ret_bool (by simp), X5.out.trans g6⟩
    · obtain rfl := hde ke
      have ke2 : (e != 0) = true := by simp [ke]
      replace c1 := hidden c1
      obtain ⟨n, hn⟩ : ∃ n, D.length = n := ⟨_, rfl⟩
      have H : Hid (Rd8 w (.slice a n cap) D) := hidden (by rw [← hn]; exact h)
      rw [hn] at k q1 c1 ⊢
      clear h hb hed hde hE hn ke
      go_enter Try.func7, Try.ntmps7
      go_wp2_with fail
      refine (c1.out _ H.out).mono ?_
      rintro e1 w1 ⟨v1, rfl, O1, g1⟩
      have T1 : Hid (Toks w1 v1 []) := hidden O1.toks
      obtain ⟨a1, k1, rfl, -, -, -⟩ := Rd.shape T1.out
      have X1 := hidden g1
      clear O1 g1 H
      go_wp2_with fail
      refine (haw.out _).mono ?_
      rintro e1 w5 ⟨rfl, g5⟩
      go_wp2_with fail
      go_ret
      exact ⟨ret_bool (by simp), X1.out.trans g5⟩

set_option maxRecDepth 100000 in
set_option maxHeartbeats 4000000 in
theorem LzSearches_law (v : Value) (D : List Int) (at_ : Int) (hb : Bytes D) (ha0 : -9223372036854775808 ≤ at_) (ha1 : at_ ≤ 9223372036854775807) (w : World) (h : Rd8 w v D) :
    Calls Try.prog 9 #[v, .int .i64 at_] w fun x w' => x = .returned (.bool true) ∧ Ext w w' := by
  have haw := hidden awake_any
  obtain ⟨a, cap, rfl, q1, q2, q3⟩ := Rd.shape h
  by_cases k : 300 < D.length ∧ D.length ≤ 65536
  · obtain ⟨k1, k2⟩ := k
    obtain ⟨n, hn⟩ : ∃ n, D.length = n := ⟨_, rfl⟩
    rw [hn] at k1 k2 q1 ⊢
    clear h hb hn
    go_enter Try.func9, Try.ntmps9
    go_wp2_with fail
    refine (haw.out _).mono ?_
    rintro e1 w1 ⟨rfl, g1⟩
    go_wp2_with fail
    go_ret
    exact ⟨rfl, g1⟩
  · have c1 := fun W hW => lLongest_any (.slice a D.length cap) D at_ hb ha0 ha1 (by omega) W hW
    have c2 := fun W hW => rlongest_any (.slice a D.length cap) D at_ hb ha0 ha1 (by omega) W hW
    have c3 := fun W hW => lgreedy_any (.slice a D.length cap) D hb (by omega) W hW
    have c4 := fun W hW => rgreedy_any (.slice a D.length cap) D hb (by omega) W hW
    have hll : (grF D).2.length ≤ 900000 := by
      unfold grF
      split
      · simp
      · have := gre_len D D.length 0
        simp only
        omega
    obtain ⟨⟨e1, L, Ds, B⟩, hE1⟩ : ∃ r, loE D at_ = r := ⟨_, rfl⟩
    obtain ⟨⟨e2, l⟩, hE2⟩ : ∃ r, grF D = r := ⟨_, rfl⟩
    rw [hE1] at c1 c2
    rw [hE2] at c3 c4 hll
    simp only at hll
    replace c1 := hidden c1
    replace c2 := hidden c2
    replace c3 := hidden c3
    replace c4 := hidden c4
    replace hll := hidden hll
    have heq := fun w => eqlT w L Ds B L Ds B
    simp only [decide_true] at heq
    obtain ⟨n, hn⟩ : ∃ n, D.length = n := ⟨_, rfl⟩
    have H : Hid (Rd8 w (.slice a n cap) D) := hidden (by rw [← hn]; exact h)
    rw [hn] at k q1 c1 c2 c3 c4 ⊢
    have hsplit : n ≤ 300 ∨ (300 < n ∧ 65536 < n) := by omega
    clear h hb hE1 hE2 hn k
    have fin : ∀ (P : Prop), (n ≤ 300 → P) → (300 < n → 65536 < n → P) → P := fun P f g => by rcases hsplit with h | ⟨h1, h2⟩; exact f h; exact g h1 h2
    clear hsplit
    refine fin _ (fun k1 => ?_) (fun k1 k2 => ?_)
    all_goals
      clear fin
      go_enter Try.func9, Try.ntmps9
      go_wp2_with fail
      refine (c1.out _ H.out).mono ?_
      rintro e3 w1 ⟨he, g1⟩
      change e3 = .returned (.tuple #[.agg #[.int .i64 L, .int .i64 Ds, .int .u8 B], .int .i64 e1]) at he
      subst he
      have X1 := (g1.alloc (.cells #[.int .i64 L, .int .i64 Ds, .int .u8 B] 27))
      have H1 : Hid (Rd8 (w1.alloc (.cells #[.int .i64 L, .int .i64 Ds, .int .u8 B] 27)) (.slice a n cap) D) := hidden (Rd.ext H.out X1)
      have B1 := hidden (Blk.new w1 [.int .i64 L, .int .i64 Ds, .int .u8 B] 27)
      replace X1 := hidden X1
      clear g1
      go_wp2_with fail
      refine (c2.out _ H1.out).mono ?_
      rintro e3 w2 ⟨he, g2⟩
      change e3 = .returned (.tuple #[.agg #[.int .i64 L, .int .i64 Ds, .int .u8 B], .int .i64 e1]) at he
      subst he
      have gg := (g2.alloc (.cells #[.int .i64 L, .int .i64 Ds, .int .u8 B] 27))
      have X2 := hidden (X1.out.trans gg)
      have H2 : Hid (Rd8 (w2.alloc (.cells #[.int .i64 L, .int .i64 Ds, .int .u8 B] 27)) (.slice a n cap) D) := hidden (Rd.ext H1.out gg)
      have B2 := hidden (Blk.ext B1.out gg)
      have C2 := hidden (Blk.new w2 [.int .i64 L, .int .i64 Ds, .int .u8 B] 27)
      clear g2 gg H1 X1 B1
      go_wp2_with fail
      refine (c3.out _ H2.out).mono ?_
      rintro e3 w3 ⟨v3, rfl, O3, g3⟩
      have T3 : Hid (Toks w3 v3 l) := hidden O3.toks
      obtain ⟨a3, k3, rfl, -, -, -⟩ := Rd.shape T3.out
      have X3 := hidden (X2.out.trans g3)
      have H3 : Hid (Rd8 w3 (.slice a n cap) D) := hidden (Rd.ext H2.out g3)
      have B3 := hidden (Blk.ext B2.out g3)
      have C3 := hidden (Blk.ext C2.out g3)
      clear O3 g3 H2 X2 B2 C2
      go_wp2_with fail
      refine (c4.out _ H3.out).mono ?_
      rintro e3 w4 ⟨v4, rfl, O4, g4⟩
      have U4 : Hid (Toks w4 v4 l) := hidden O4.toks
      have T4 : Hid (Toks w4 (.slice a3 l.length k3) l) := hidden (Rd.ext T3.out g4)
      obtain ⟨a4, k4, rfl, -, -, -⟩ := Rd.shape U4.out
      have X4 := hidden (X3.out.trans g4)
      have B4 := hidden (Blk.ext B3.out g4)
      have C4 := hidden (Blk.ext C3.out g4)
      clear O4 g4 H3 X3 B3 C3 T3
      go_wp2_with fail
      refine (haw.out _).mono ?_
      rintro e3 w5 ⟨rfl, g5⟩
      have B5 := Blk.ext B4.out g5
      have C5 := Blk.ext C4.out g5
      have b0 := B5.cell 0 _ rfl
      have b1 := B5.cell 1 _ rfl
      have b2 := B5.cell 2 _ rfl
      have d0 := C5.cell 0 _ rfl
      have d1 := C5.cell 1 _ rfl
      have d2 := C5.cell 2 _ rfl
      have T5 : Hid (Toks w5 (.slice a3 l.length k3) l) := hidden (Rd.ext T4.out g5)
      have U5 : Hid (Toks w5 (.slice a4 l.length k4) l) := hidden (Rd.ext U4.out g5)
      have X5 := hidden (X4.out.trans g5)
      clear g5 B5 C5
      go_wp2_with fail
      refine (sameT_any _ _ l l hll.out hll.out _ T5.out U5.out).mono ?_
      rintro e3 w6 ⟨rfl, g6⟩
      go_wp2_with fail
      go_ret
      exact ⟨ret_bool (by simp), X5.out.trans g6⟩
end Go.Proofs.Ytlnlffmlficjnaa
