/- Layer 35: the chapter's examples. -/
import Derived.Test.YtlnlffmlficjnaaLv
import Derived.Test.YtlnlffmlficjnaaLw
import Derived.Lib.SlBytesConst
import Derived.Lib.SmallJoins
namespace Go.Proofs.Ytlnlffmlficjnaa
open Go.RowKit
set_option linter.unusedVariables false
attribute [local go_sem ↓] Go.wp_at_zero Go.wp_at_succ

theorem rd_litG (w : World) (t : TypeId) (fr : Nat × Nat) (sz n : Nat) (cs : List Value) (hc : cs.length = n * sz) (hn : n ≤ 1000) (hz : 0 < sz) : Rd (w.alloc (.cells cs.toArray t fr)) sz (.slice (some ⟨w.heap.size, 0, none⟩) n n) n cs := by
  refine ⟨hc, some ⟨w.heap.size, 0, none⟩, n, rfl, Nat.le_refl _, by unfold maxLen; omega, (fun e => by cases e), fun _ => ⟨w.heap.size, 0, rfl, by simp, fun j hj => ?_⟩⟩
  rw [Nat.zero_add, World.cell?_alloc_mark]
  simp [List.getD, hj]
def exL : List (Int × Int × Int) := [(0, 0, 97), (0, 0, 98), (5, 2, 0)]
theorem exL_ok : OkTs exL := by
  intro x hx
  simp [exL] at hx
  rcases hx with rfl | rfl | rfl <;> exact ⟨⟨by decide, by decide⟩, ⟨by decide, by decide⟩, by decide, by decide⟩
theorem lev1 : expF exL = (0, [97, 98, 97, 98, 97, 98, 97]) := by decide +kernel
theorem lev2 : encF exL = (0, [48, 152, 164, 64]) := by decide +kernel
theorem lev3 : grF [97, 97, 97, 97] = (0, [(0, 0, 97), (3, 1, 0)]) := by decide +kernel
theorem lev4 : decF [0] = (9, []) := by decide +kernel
theorem lev5 : decF [48, 152] = (9, []) := by decide +kernel
theorem lev6 : prc (0, 0, 97) = 9 := by decide +kernel
theorem lev7 : prc (5, 2, 0) = 9 := by decide +kernel
theorem lev8 : prc (3, 1, 0) = 5 := by decide +kernel
theorem by4 : Bytes [97, 97, 97, 97] := by intro x hx; simp at hx; omega
theorem by1 : Bytes [0] := by intro x hx; simp at hx; omega
theorem by2 : Bytes [48, 152] := by intro x hx; simp at hx; omega
theorem str1 : strOfNums [97, 98, 97, 98, 97, 98, 97] = ⟨#[97, 98, 97, 98, 97, 98, 97]⟩ := by rfl
theorem str2 : strOfNums [48, 152, 164, 64] = ⟨#[48, 152, 164, 64]⟩ := by rfl

set_option maxRecDepth 100000 in
set_option maxHeartbeats 4000000 in
theorem awake_any (w : World) : Calls Try.prog 12 #[] w fun x w' => x = .returned (.bool true) ∧ Ext w w' := by
  have L0 : Toks (w.alloc (.cells #[.int .i64 0, .int .i64 0, .int .u8 97, .int .i64 0, .int .i64 0, .int .u8 98, .int .i64 5, .int .i64 2, .int .u8 0] 27)) (.slice (some ⟨w.heap.size, 0, none⟩) 3 3) exL := rd_litG w 27 (0, 0) 3 3 (exL.flatMap tkc) rfl (by omega) (by omega)
  have X0 := hidden ((Ext.refl w).alloc (.cells #[.int .i64 0, .int .i64 0, .int .u8 97, .int .i64 0, .int .i64 0, .int .u8 98, .int .i64 5, .int .i64 2, .int .u8 0] 27))
  replace L0 := hidden L0
  go_enter Try.func12, Try.ntmps12
  go_wp2_with fail
  refine (lexpand_any _ exL exL_ok _ L0.out).mono ?_
  rw [lev1]
  rintro e w1 ⟨v1, rfl, O1, g1⟩
  obtain ⟨a1, c1, rfl, -, -, -⟩ := Rd.shape O1.rd
  have L1 := hidden (Rd.ext L0.out g1)
  have X1 := hidden (X0.out.trans g1)
  have R1 : Hid (Rd8 w1 (.slice a1 7 c1) [97, 98, 97, 98, 97, 98, 97]) := hidden O1.rd
  clear L0 X0 O1 g1
  go_wp2_with fail
  refine (lencode_any _ exL exL_ok (by decide) _ L1.out).mono ?_
  rw [lev2]
  rintro e w2 ⟨v2, rfl, O2, g2⟩
  obtain ⟨a2, c2, rfl, -, -, -⟩ := Rd.shape O2.rd
  have L2 := hidden (Rd.ext L1.out g2)
  have X2 := hidden (X1.out.trans g2)
  have R2 : Hid (Rd8 w2 (.slice a1 7 c1) [97, 98, 97, 98, 97, 98, 97]) := hidden (Rd.ext R1.out g2)
  have S2 : Hid (Rd8 w2 (.slice a2 4 c2) [48, 152, 164, 64]) := hidden O2.rd
  clear L1 X1 R1 O2 g2
  have G2 : Hid (Rd8 (w2.alloc (.cells #[.int .u8 97, .int .u8 97, .int .u8 97, .int .u8 97] 5 (4, 5))) (.slice (some ⟨w2.heap.size, 0, none⟩) 4 4) [97, 97, 97, 97]) := hidden (rd_litG w2 5 (4, 5) 1 4 (bs [97, 97, 97, 97]) rfl (by omega) (by omega))
  have E2 := hidden ((Ext.refl w2).alloc (.cells #[.int .u8 97, .int .u8 97, .int .u8 97, .int .u8 97] 5 (4, 5)))
  have kc : (convert 28 28 (.slice (some ⟨w2.heap.size, 0, none⟩) 4 4)).run Try.prog (w2.alloc (.cells #[.int .u8 97, .int .u8 97, .int .u8 97, .int .u8 97] 5)) = .ok (.slice (some ⟨w2.heap.size, 0, none⟩) 4 4) (w2.alloc (.cells #[.int .u8 97, .int .u8 97, .int .u8 97, .int .u8 97] 5 (4, 5))) := Lib.run_convert_bytes_const (P := Try.prog) w2 28 5 #[.int .u8 97, .int .u8 97, .int .u8 97, .int .u8 97] 4 4 Try.underlying28 Try.underlying5
  go_wp2_with fail
  refine (lgreedy_any _ [97, 97, 97, 97] by4 (by decide) _ G2.out).mono ?_
  rw [lev3]
  rintro e w3 ⟨v3, rfl, O3, g3⟩
  obtain ⟨a3, c3, rfl, -, -, -⟩ := Rd.shape O3.toks
  have g3' := E2.out.trans g3
  have L3 := hidden (Rd.ext L2.out g3')
  have X3 := hidden (X2.out.trans g3')
  have R3 : Hid (Rd8 w3 (.slice a1 7 c1) [97, 98, 97, 98, 97, 98, 97]) := hidden (Rd.ext R2.out g3')
  have S3 : Hid (Rd8 w3 (.slice a2 4 c2) [48, 152, 164, 64]) := hidden (Rd.ext S2.out g3')
  have T3 : Hid (Toks w3 (.slice a3 2 c3) [(0, 0, 97), (3, 1, 0)]) := hidden O3.toks
  clear L2 X2 R2 S2 O3 g3 G2 E2 kc g3'
  have G3 : Hid (Rd8 (w3.alloc (.cells #[.int .u8 0] 5)) (.slice (some ⟨w3.heap.size, 0, none⟩) 1 1) [0]) := hidden (rd_litG w3 5 (0, 0) 1 1 (bs [0]) rfl (by omega) (by omega))
  have E3 := hidden ((Ext.refl w3).alloc (.cells #[.int .u8 0] 5))
  go_wp2_with fail
  refine (ldecode_any _ [0] by1 (by decide) _ G3.out).mono ?_
  rw [lev4]
  rintro e w4 ⟨v4, rfl, O4, g4⟩
  obtain ⟨a4, c4, rfl, -, -, -⟩ := Rd.shape O4.toks
  have g4' := E3.out.trans g4
  have L4 := hidden (Rd.ext L3.out g4')
  have X4 := hidden (X3.out.trans g4')
  have R4 : Hid (Rd8 w4 (.slice a1 7 c1) [97, 98, 97, 98, 97, 98, 97]) := hidden (Rd.ext R3.out g4')
  have S4 : Hid (Rd8 w4 (.slice a2 4 c2) [48, 152, 164, 64]) := hidden (Rd.ext S3.out g4')
  have T4 : Hid (Toks w4 (.slice a3 2 c3) [(0, 0, 97), (3, 1, 0)]) := hidden (Rd.ext T3.out g4')
  clear L3 X3 R3 S3 T3 O4 g4 G3 E3 g4'
  have G4 : Hid (Rd8 (w4.alloc (.cells #[.int .u8 48, .int .u8 152] 5)) (.slice (some ⟨w4.heap.size, 0, none⟩) 2 2) [48, 152]) := hidden (rd_litG w4 5 (0, 0) 1 2 (bs [48, 152]) rfl (by omega) (by omega))
  have E4 := hidden ((Ext.refl w4).alloc (.cells #[.int .u8 48, .int .u8 152] 5))
  go_wp2_with fail
  refine (ldecode_any _ [48, 152] by2 (by decide) _ G4.out).mono ?_
  rw [lev5]
  rintro e w5 ⟨v5, rfl, O5, g5⟩
  obtain ⟨a5, c5, rfl, -, -, -⟩ := Rd.shape O5.toks
  have g5' := E4.out.trans g5
  have L5 := hidden (Rd.ext L4.out g5')
  have X5 := hidden (X4.out.trans g5')
  have R5 : Rd8 w5 (.slice a1 7 c1) [97, 98, 97, 98, 97, 98, 97] := Rd.ext R4.out g5'
  have S5 : Rd8 w5 (.slice a2 4 c2) [48, 152, 164, 64] := Rd.ext S4.out g5'
  have T5 : Hid (Toks w5 (.slice a3 2 c3) [(0, 0, 97), (3, 1, 0)]) := hidden (Rd.ext T4.out g5')
  have h1 := str_of R5
  have h2 := str_of S5
  rw [str1] at h1
  rw [str2] at h2
  obtain ⟨⟨y0, y1, y2⟩, ⟨y3, y4, y5⟩⟩ := And.intro (rd3_at tkc_len (show Rd w5 3 (.slice (some ⟨w.heap.size, 0, none⟩) 3 3) 3 (exL.flatMap tkc) from L5.out) 0 (0, 0, 97) rfl _ _ _ rfl) (rd3_at tkc_len (show Rd w5 3 (.slice (some ⟨w.heap.size, 0, none⟩) 3 3) 3 (exL.flatMap tkc) from L5.out) 2 (5, 2, 0) rfl _ _ _ rfl)
  simp only [Nat.zero_mul, Nat.zero_add] at y0 y1 y2 y3 y4 y5
  clear L4 X4 R4 S4 T4 R5 S5 O5 g5 G4 E4 g5'
  go_wp2_with fail
  refine (lprice_any 0 0 97 _).mono ?_
  rw [lev6]
  rintro e w6 ⟨rfl, g6⟩
  replace y3 := g6.cell y3
  replace y4 := g6.cell y4
  replace y5 := g6.cell y5
  have X6 := hidden (X5.out.trans g6)
  have T6 := hidden (Rd.ext T5.out g6)
  clear h1 h2 y0 y1 y2 X5 T5 g6 L5
  go_wp2_with fail
  refine (lprice_any 5 2 0 _).mono ?_
  rw [lev7]
  rintro e w7 ⟨rfl, g7⟩
  have X7 := hidden (X6.out.trans g7)
  have T7 := hidden (Rd.ext T6.out g7)
  clear y3 y4 y5 X6 T6 g7
  go_wp2_with fail
  refine (lprice_any 3 1 0 _).mono ?_
  rw [lev8]
  rintro e w8 ⟨rfl, g8⟩
  have X8 := hidden (X7.out.trans g8)
  have A8 := (Ext.refl w8).alloc (.cells #[.int .i64 0, .int .i64 0, .int .u8 97, .int .i64 3, .int .i64 1, .int .u8 0] 27)
  have T8 : Hid (Toks (w8.alloc (.cells #[.int .i64 0, .int .i64 0, .int .u8 97, .int .i64 3, .int .i64 1, .int .u8 0] 27)) (.slice a3 2 c3) [(0, 0, 97), (3, 1, 0)]) := hidden (Rd.ext (Rd.ext T7.out g8) A8)
  have U8 : Hid (Toks (w8.alloc (.cells #[.int .i64 0, .int .i64 0, .int .u8 97, .int .i64 3, .int .i64 1, .int .u8 0] 27)) (.slice (some ⟨w8.heap.size, 0, none⟩) 2 2) [(0, 0, 97), (3, 1, 0)]) := hidden (rd_litG w8 27 (0, 0) 3 2 (List.flatMap tkc [(0, 0, 97), (3, 1, 0)]) rfl (by omega) (by omega))
  replace A8 := hidden A8
  clear X7 T7 g8
  go_wp2_with fail
  refine (sameT_any _ _ _ _ (by decide) (by decide) _ T8.out U8.out).mono ?_
  rintro e w9 ⟨rfl, g9⟩
  have X9 := hidden ((X8.out.trans A8.out).trans g9)
  clear T8 U8 A8 g9
  go_wp2_with fail
  go_ret
  exact ⟨ret_bool (by simp), X9.out⟩
end Go.Proofs.Ytlnlffmlficjnaa

/- Layer 35: the statement LzLongest. -/
namespace Go.Proofs.Ytlnlffmlficjnaa
open Go.RowKit
set_option linter.unusedVariables false
attribute [local go_sem ↓] Go.wp_at_zero Go.wp_at_succ

/-- What the law asks of a distance. -/
theorem fnd_tests {b : List Int} {a : Nat} {t : Int × Int × Int} (h : Fnd b a a t) (k : Nat) (hk : k < a) :
    (lnT b a (k + 1) : Int) ≤ max t.1 1 ∧ ((k : Int) + 1 = t.2.1 → (lnT b a (k + 1) : Int) = t.1) ∧ ((k : Int) + 1 < t.2.1 → (lnT b a (k + 1) : Int) ≠ t.1) := by
  rcases h with ⟨rfl, h1⟩ | ⟨d, h1, h2, rfl, h3, h4, h5⟩
  · have := h1 (k + 1) (by omega) (by omega)
    simp only
    omega
  · have e4 := h4 (k + 1) (by omega) (by omega)
    simp only
    refine ⟨by omega, fun e => ?_, fun e => ?_⟩
    · obtain rfl : d = k + 1 := by omega
      rfl
    · have := h5 (k + 1) (by omega) (by omega)
      omega

set_option maxRecDepth 100000 in
set_option maxHeartbeats 8000000 in
theorem LzLongest_law (v : Value) (D : List Int) (at_ : Int) (hb : Bytes D) (ha0 : 0 ≤ at_) (ha1 : at_ ≤ 65535) (w : World) (h : Rd8 w v D) :
    Calls Try.prog 10 #[v, .int .u16 at_] w fun x w' => x = .returned (.bool true) ∧ Ext w w' := by
  have haw := hidden awake_any
  obtain ⟨ad, cap, rfl, q1, q2, q3⟩ := Rd.shape h
  by_cases k : 200 < D.length
  · obtain ⟨n, hn⟩ : ∃ n, D.length = n := ⟨_, rfl⟩
    rw [hn] at k q1 ⊢
    clear h hb hn
    go_enter Try.func10, Try.ntmps10
    go_wp2_with fail
    refine (haw.out _).mono ?_
    rintro e1 w1 ⟨rfl, g1⟩
    go_wp2_with fail
    go_ret
    exact ⟨rfl, g1⟩
  by_cases k2 : D.length = 0
  · rw [k2] at q1 ⊢
    clear h hb k k2
    go_enter Try.func10, Try.ntmps10
    go_wp2_with fail
    refine (haw.out _).mono ?_
    rintro e1 w1 ⟨rfl, g1⟩
    go_wp2_with fail
    go_ret
    exact ⟨rfl, g1⟩
  obtain ⟨bb, off, hab, -, -⟩ := Rd.cells h (by omega)
  subst hab
  obtain ⟨m, hm⟩ : ∃ m, D.length = m := ⟨_, rfl⟩
  have hm0 : ((m : Int) == 0) = false := by simp; omega
  have hm1 : (m == 0) = false := by simp; omega
  have hr1 : 0 ≤ at_ % (m : Int) ∧ at_ % (m : Int) < (m : Int) := ⟨Int.emod_nonneg _ (by omega), Int.emod_lt_of_pos _ (by omega)⟩
  obtain ⟨a, ha⟩ : ∃ a : Nat, at_ % (m : Int) = (a : Int) := ⟨(at_ % (m : Int)).toNat, by omega⟩
  rw [ha] at hr1
  obtain ⟨-, hr2⟩ := hr1
  have hl1 := lLongest_any (.slice (some ⟨bb, off, none⟩) D.length cap) D (a : Int) hb (by omega) (by omega) (by omega)
  have hlo : loE D (a : Int) = (0, loF D a) := by unfold loE; rw [if_neg (by omega), if_neg (by omega), Int.toNat_natCast]
  have hfn := loF_fnd D a
  rw [show min 4096 a = a by omega] at hfn
  have hbd := fnd_ok hfn hb (by omega) (by omega) (by omega)
  have hte := fnd_tests hfn
  obtain ⟨y, hy⟩ : ∃ y, D.getD a 0 = y := ⟨_, rfl⟩
  have hcase : loF D a = (0, 0, y) ∨ (2 ≤ (loF D a).1 ∧ 1 ≤ (loF D a).2.1 ∧ (loF D a).2.2 = 0) := by
    rcases hfn with ⟨e, -⟩ | ⟨d, h1, h2, e, h3, -, -⟩
    · left; rw [e, hy]
    · right; rw [e]; exact ⟨by simp only; omega, by simp only; omega, rfl⟩
  have cA := Rd8.at h a (by omega)
  rw [hy] at cA
  obtain ⟨⟨L, Ds, B⟩, hN⟩ : ∃ N, loF D a = N := ⟨_, rfl⟩
  rw [hN] at hlo hbd hte hcase
  simp only [hlo] at hl1
  simp only at hbd hte hcase
  have hLz : szT (L, Ds, B) = if L < 1 then 1 else L := rfl
  obtain ⟨-, u1, u2, u3, u4, u5, u6, u7⟩ := hbd
  have hLm : L ≤ (m : Int) - (a : Int) := by rw [hLz] at u2; split at u2 <;> omega
  have hR : Hid (Rd8 w (.slice (some ⟨bb, off, none⟩) m cap) D) := hidden (by rw [← hm]; exact h)
  rw [hm] at q1 k k2 hl1 ⊢
  obtain ⟨M, hM⟩ : ∃ M, min 255 (m - a) = M := ⟨_, rfl⟩
  have hM1 : M = m - a ∧ M ≤ 200 := by omega
  have hln : Hid (∀ d, lnT D a d = cmn D d a M) := by intro d; unfold lnT mst; rw [hm, hM]
  obtain ⟨hM2, hM3⟩ := hM1
  replace hM2 := hidden hM2
  replace hl1 := hidden hl1
  replace hte := hidden hte
  replace hb := hidden hb
  replace hm := hidden hm
  have t1 : decide (L < 0) = false := by simp; omega
  have t2 : (L == 1) = false := by
    rcases hcase with e | e
    · simp only [Prod.mk.injEq] at e; simp [e]
    · simp; omega
  have t3 : decide ((m : Int) - (a : Int) < L) = false := by simp; omega
  have t4 : decide (Ds < 0) = false := by simp; omega
  have t5 : decide ((a : Int) < Ds) = false := by simp; omega
  have hc2 : ((L == 0) = true ∧ (Ds != 0) = false ∧ (B != y) = false ∧ decide (0 < L) = false) ∨ ((L == 0) = false ∧ decide (0 < L) = true ∧ (B != 0) = false) := by
    rcases hcase with e | ⟨e1, e2, e3⟩
    · simp only [Prod.mk.injEq] at e
      obtain ⟨rfl, rfl, rfl⟩ := e
      left; simp
    · have e1' : 2 ≤ L := e1
      have e3' : B = 0 := e3
      right; exact ⟨by simp; omega, by simp; omega, by simp [e3']⟩
  have haI : (a : Int) < (m : Int) := by omega
  have haI0 : (0 : Int) ≤ (a : Int) := by omega
  clear h hN hlo hLz hM hcase hfn hy u2
  have wmod : at_ % (m : Int) = (a : Int) := ha
  clear ha
  have hsub : IntKind.i64.wrap ((m : Int) - (a : Int)) = (m : Int) - (a : Int) := IntWalk.i64_in _ (by omega)
  rcases hc2 with ⟨s1, s2, s3, s4⟩ | ⟨s1, s2, s3⟩
  all_goals
    go_enter Try.func10, Try.ntmps10
    go_wp2_with fail
    refine (hl1.out _ hR.out).mono ?_
    rintro e1 w1 ⟨he, g1⟩
    change e1 = .returned (.tuple #[.agg #[.int .i64 L, .int .i64 Ds, .int .u8 B], .int .i64 0]) at he
    subst he
    have X1 := g1.alloc (.cells #[.int .i64 L, .int .i64 Ds, .int .u8 B] 27)
    have R1 : Hid (Rd8 (w1.alloc (.cells #[.int .i64 L, .int .i64 Ds, .int .u8 B] 27)) (.slice (some ⟨bb, off, none⟩) m cap) D) := hidden (Rd.ext hR.out X1)
    have cA1 := X1.cell cA
    have B1 := Blk.new w1 [.int .i64 L, .int .i64 Ds, .int .u8 B] 27
    have b0 := B1.cell 0 _ rfl
    have b1 := B1.cell 1 _ rfl
    have b2 := B1.cell 2 _ rfl
    replace B1 := hidden B1
    replace X1 := hidden X1
    clear cA g1
    go_wp2_with fail
    go_quiet (fail)
    go_wp2_with fail
    obtain ⟨W1, hW1⟩ : ∃ x, (w1.alloc (.cells #[.int .i64 L, .int .i64 Ds, .int .u8 B] 27)) = x := ⟨_, rfl⟩
    rw [hW1] at X1 R1 B1
    rw [hW1]
    obtain ⟨pb, hpb⟩ : ∃ x, w1.heap.size = x := ⟨_, rfl⟩
    rw [hpb] at B1
    rw [hpb]
    clear hW1 hpb b0 b1 b2 cA1
    go_loopw [8] (fun s wx => ∃ k : Nat, s = .int .i64 ((k : Int) + 1) ∧ k ≤ a ∧ Ext W1 wx) (fun s _ => a + 1 - (intOf s).toNat)
    case atStart => exact ⟨0, rfl, Nat.zero_le _, (Ext.refl _).drewN _⟩
    case round =>
      obtain ⟨k, rfl, hk, hX⟩ := hrel
      obtain ⟨W, hWW⟩ : ∃ x, x = wr := ⟨_, rfl⟩
      subst hWW
      by_cases hlt : k < a
      · have kk1 : (k : Int) + 1 ≤ (a : Int) := by omega
        obtain ⟨v1, v2, v3⟩ := hte.out k hlt
        obtain ⟨N, hN⟩ : ∃ N, lnT D a (k + 1) = N := ⟨_, rfl⟩
        have hNc : Hid (cmn D (k + 1) a M = N) := hidden (by rw [← hln.out, hN])
        rw [hN] at v1 v2 v3
        have HT : ((((k : Int) + 1 == Ds) = true ∧ ((N : Int) != L) = false ∧ decide ((k : Int) + 1 < Ds) = false) ∨ (((k : Int) + 1 == Ds) = false ∧ decide ((k : Int) + 1 < Ds) = true ∧ ((N : Int) == L) = false) ∨ (((k : Int) + 1 == Ds) = false ∧ decide ((k : Int) + 1 < Ds) = false)) := by
          rcases Int.lt_trichotomy ((k : Int) + 1) Ds with g | g | g
          · right; left
            have := v3 g
            exact ⟨by simp; omega, by simp; omega, by simp; omega⟩
          · left
            have := v2 g
            exact ⟨by simp; omega, by simp; omega, by simp; omega⟩
          · right; right
            exact ⟨by simp; omega, by simp; omega⟩
        have HM : decide (max L 1 < (N : Int)) = false := by simp; omega
        clear hN v1 v2 v3
        replace HT := hidden HT
        replace HM := hidden HM
        go_wp2_with fail
        go_loopw [9] (fun s6 wx => ∃ j : Nat, s6 = .int .i64 (j : Int) ∧ j ≤ M ∧ Hid (j + cmn D (k + 1) (a + j) (M - j) = N) ∧ Ext W1 wx) (fun s6 _ => M - (intOf s6).toNat)
        case atStart => exact ⟨0, rfl, Nat.zero_le _, by show _ = _; rw [Nat.zero_add, Nat.add_zero, Nat.sub_zero]; exact hNc.out, hX⟩
        case round =>
          obtain ⟨j, rfl, hjM, hLj, hX2⟩ := hrel
          obtain ⟨wj, hwj⟩ : ∃ x, x = wr := ⟨_, rfl⟩
          subst hwj
          have hMe := hM2.out
          by_cases hj : j < M
          · have dR2 := Rd.ext R1.out hX2
            have cA := Rd8.at dR2 (a + j) (by rw [hm.out]; omega)
            have cB := Rd8.at dR2 (a + j - (k + 1)) (by rw [hm.out]; omega)
            have i1 : (0 : Int) ≤ (a : Int) + (j : Int) := by omega
            have i2 : (a : Int) + (j : Int) < (m : Int) := by omega
            have i3 : ((a : Int) + (j : Int)).toNat = a + j := by omega
            have i4 : (0 : Int) ≤ (a : Int) + (j : Int) - ((k : Int) + 1) := by omega
            have i5 : (a : Int) + (j : Int) - ((k : Int) + 1) < (m : Int) := by omega
            have i6 : ((a : Int) + (j : Int) - ((k : Int) + 1)).toNat = a + j - (k + 1) := by omega
            have w1' : IntKind.i64.wrap ((a : Int) + (j : Int)) = (a : Int) + (j : Int) := IntWalk.i64_in _ (by omega)
            have w2' : IntKind.i64.wrap ((a : Int) + (j : Int) - ((k : Int) + 1)) = (a : Int) + (j : Int) - ((k : Int) + 1) := IntWalk.i64_in _ (by omega)
            have p1 : decide ((j : Int) < 255) = true := by simp; omega
            have p2 : decide ((a : Int) + (j : Int) < (m : Int)) = true := by simp; omega
            clear hMe
            by_cases hq : D.getD (a + j) 0 = D.getD (a + j - (k + 1)) 0
            · have hst := hidden (cmn_step (D := D) (d := k + 1) (a := a) hj hq)
              rw [← hq] at cB
              obtain ⟨z, hz⟩ : ∃ y, D.getD (a + j) 0 = y := ⟨_, rfl⟩
              rw [hz] at cA cB
              replace dR2 := hidden dR2
              clear hq hz
              go_wp2_with fail
              go_quiet (fail)
              go_wp2_with fail
              go_round
              case rel => exact ⟨j + 1, by go_num, by omega, by show _ = _; rw [← hst.out]; exact hLj.out, hX2.drewN _⟩
              case measure => simp [intOf]; omega
            · have hst := cmn_stop (D := D) (d := k + 1) (a := a) hj hq
              obtain ⟨z, hz⟩ : ∃ y, D.getD (a + j) 0 = y := ⟨_, rfl⟩
              obtain ⟨z2, hz2⟩ : ∃ y, D.getD (a + j - (k + 1)) 0 = y := ⟨_, rfl⟩
              rw [hz] at cA hq
              rw [hz2] at cB hq
              have hyz : (z == z2) = false := by simp [hq]
              have hfin : N = j := by rw [← hLj.out, hst]
              replace dR2 := hidden dR2
              clear hq hz hz2 hst hLj hNc
              subst hfin
              have B2 := Blk.ext B1.out hX2
              have b0 := B2.cell 0 _ rfl
              have b1 := B2.cell 1 _ rfl
              have b2 := B2.cell 2 _ rfl
              replace B2 := hidden B2
              have HM' := HM.out
              rcases HT.out with ⟨z3, z4, z5⟩ | ⟨z3, z4, z5⟩ | ⟨z3, z4⟩
              all_goals
                go_wp2_with fail
                go_quiet (fail)
                go_wp2_with fail
                go_round
                case rel => exact ⟨k + 1, by go_num, by omega, hX2.drewN _⟩
                case measure => simp [intOf]; omega
          · have hfin : N = j := by rw [← hLj.out, show M - j = 0 by omega]; rfl
            clear hLj hNc
            subst hfin
            have p2 : decide ((a : Int) + (N : Int) < (m : Int)) = false := by simp; omega
            have p1 : decide ((N : Int) < 255) = true := by simp; omega
            have w1' : IntKind.i64.wrap ((a : Int) + (N : Int)) = (a : Int) + (N : Int) := IntWalk.i64_in _ (by omega)
            clear hMe
            have B2 := Blk.ext B1.out hX2
            have b0 := B2.cell 0 _ rfl
            have b1 := B2.cell 1 _ rfl
            have b2 := B2.cell 2 _ rfl
            replace B2 := hidden B2
            have HM' := HM.out
            rcases HT.out with ⟨z3, z4, z5⟩ | ⟨z3, z4, z5⟩ | ⟨z3, z4⟩
            all_goals
              go_wp2_with fail
              go_quiet (fail)
              go_wp2_with fail
              go_round
              case rel => exact ⟨k + 1, by go_num, by omega, hX2.drewN _⟩
              case measure => simp [intOf]; omega
      · have kk1 : ¬ (k : Int) + 1 ≤ (a : Int) := by omega
        go_wp2_with fail
        refine (haw.out _).mono ?_
        rintro e1 w4 ⟨rfl, g4⟩
        go_wp2_with fail
        go_ret
        exact ⟨rfl, (X1.out.trans hX).trans g4⟩
end Go.Proofs.Ytlnlffmlficjnaa
