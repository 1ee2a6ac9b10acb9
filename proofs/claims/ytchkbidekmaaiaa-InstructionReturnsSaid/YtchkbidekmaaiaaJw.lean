/- The chapter's examples (layer 15). -/
import Derived.Test.YtchkbidekmaaiaaJu
import Derived.Test.YtchkbidekmaaiaaJv
import Derived.Test.YtchkbidekmaaiaaJq
import Derived.Test.YtchkbidekmaaiaaIf
import Derived.Test.YtchkbidekmaaiaaRk
namespace Go.Proofs.Ytchkbidekmaaiaa
open Go.RowKit
set_option linter.unusedVariables false
attribute [local go_sem ↓] Go.wp_at_zero Go.wp_at_succ
def exA : List (Bool × Int) := [(false, 4)]
def exC : List (Int × Int) := [(0, 5), (2, 0), (32, 0), (34, 0)]
def ExPost (w : World) (x : Ending) (w' : World) : Prop := ∃ vA vC, x = .returned (.agg #[vA, .int .i64 1, vC]) ∧ Arr w' vA exA ∧ Cod w' vC exC ∧ Ext w w'
theorem enc_ex : encF exA 1 exC = (0, [1, 8, 1, 4, 0, 5, 2, 0, 32, 34]) := by decide +kernel
theorem dec_ex : (decF [1, 8, 1, 4, 0, 5, 2, 0, 32, 34, 7]).e = 0 ∧ (decF [1, 8, 1, 4, 0, 5, 2, 0, 32, 34, 7]).A = exA ∧ (decF [1, 8, 1, 4, 0, 5, 2, 0, 32, 34, 7]).L = 1 ∧ (decF [1, 8, 1, 4, 0, 5, 2, 0, 32, 34, 7]).C = exC ∧ (decF [1, 8, 1, 4, 0, 5, 2, 0, 32, 34, 7]).r = [7] := by decide +kernel
theorem dec_ex2 : decF [1, 8, 1, 4, 0, 5, 2, 0, 32, 34, 7] = ⟨0, exA, 1, exC, [7]⟩ := by
  obtain ⟨h1, h2, h3, h4, h5⟩ := dec_ex
  generalize decF [1, 8, 1, 4, 0, 5, 2, 0, 32, 34, 7] = D at *
  cases D
  simp_all
theorem rd_of_blk {w : World} {b n sz : Nat} {T : TypeId} {cs : List Value} (h : Blk w b T cs) (hl : cs.length = n * sz) (hn : n ≤ 1000) : Rd w sz (.slice (some ⟨b, 0, none⟩) n n) n cs := by
  refine ⟨hl, _, _, rfl, Nat.le_refl _, by unfold maxLen; omega, (fun e => by cases e), fun _ => ⟨b, 0, rfl, h.lt, fun j hj => ?_⟩⟩
  rw [Nat.zero_add]
  exact h.cell j _ (by simp [List.getD, List.getElem?_eq_getElem hj])
theorem blk_newAt (w : World) (cs : List Value) (t : TypeId) (b : Nat) (hb : w.heap.size = b) : Blk (w.alloc (.cells cs.toArray t)) b t cs := hb ▸ Blk.new w cs t
set_option maxHeartbeats 1000000 in
theorem example_any (w : World) : Calls Try.prog 31 #[] w (ExPost w) := by
  go_enter Try.func31, Try.ntmps31
  go_wp2_with fail
  have A0 := ((Blk.new w [.slice (some ⟨w.heap.size + 1, 0, none⟩) 1 1, .int .i64 1, .slice (some ⟨w.heap.size + 1 + 1, 0, none⟩) 4 4] 33).alloc (.cells #[.bool false, .int .i64 4] 72)).alloc (.cells #[.int .i64 0, .int .u32 5, .int .i64 2, .int .u32 0, .int .i64 32, .int .u32 0, .int .i64 34, .int .u32 0] 53)
  have A1 := (blk_newAt (w.alloc (.cells #[.slice (some ⟨w.heap.size + 1, 0, none⟩) 1 1, .int .i64 1, .slice (some ⟨w.heap.size + 1 + 1, 0, none⟩) 4 4] 33)) [.bool false, .int .i64 4] 72 (w.heap.size + 1) (by simp)).alloc (.cells #[.int .i64 0, .int .u32 5, .int .i64 2, .int .u32 0, .int .i64 32, .int .u32 0, .int .i64 34, .int .u32 0] 53)
  have A2 := blk_newAt ((w.alloc (.cells #[.slice (some ⟨w.heap.size + 1, 0, none⟩) 1 1, .int .i64 1, .slice (some ⟨w.heap.size + 1 + 1, 0, none⟩) 4 4] 33)).alloc (.cells #[.bool false, .int .i64 4] 72)) [.int .i64 0, .int .u32 5, .int .i64 2, .int .u32 0, .int .i64 32, .int .u32 0, .int .i64 34, .int .u32 0] 53 (w.heap.size + 1 + 1) (by simp)
  have q0 := A0.cell 0 _ rfl
  have q1 := A0.cell 1 _ rfl
  have q2 := A0.cell 2 _ rfl
  refine bodyPost_ret (v := .agg #[.slice (some ⟨w.heap.size + 1, 0, none⟩) 1 1, .int .i64 1, .slice (some ⟨w.heap.size + 1 + 1, 0, none⟩) 4 4]) (by simp [results, Try.results31, go_sem, q0, q1, q2]) rfl ?_
  exact ⟨_, _, rfl, rd_of_blk A1 rfl (by omega), rd_of_blk A2 rfl (by omega), (((Ext.refl w).alloc _).alloc _).alloc _⟩

theorem ap_1 (w : World) : Calls Try.prog 11 #[.int .i64 11, .int .u32 7, .int .u32 2] w fun x w' => x = .returned (.tuple #[.int .u32 3, .int .i64 0]) ∧ Ext w w' := by
  have h := iapply_any 11 7 2 (by omega) (by omega) (by omega) (by omega) w
  rwa [show apF 11 7 2 = (3, 0) by decide +kernel] at h
theorem ap_2 (w : World) : Calls Try.prog 11 #[.int .i64 9, .int .u32 0, .int .u32 1] w fun x w' => x = .returned (.tuple #[.int .u32 4294967295, .int .i64 0]) ∧ Ext w w' := by
  have h := iapply_any 9 0 1 (by omega) (by omega) (by omega) (by omega) w
  rwa [show apF 9 0 1 = (4294967295, 0) by decide +kernel] at h
theorem ap_3 (w : World) : Calls Try.prog 11 #[.int .i64 16, .int .u32 1, .int .u32 33] w fun x w' => x = .returned (.tuple #[.int .u32 2, .int .i64 0]) ∧ Ext w w' := by
  have h := iapply_any 16 1 33 (by omega) (by omega) (by omega) (by omega) w
  rwa [show apF 16 1 33 = (2, 0) by decide +kernel] at h
theorem ap_4 (w : World) : Calls Try.prog 11 #[.int .i64 20, .int .u32 1, .int .u32 0] w fun x w' => x = .returned (.tuple #[.int .u32 2246791068, .int .i64 0]) ∧ Ext w w' := by
  have h := iapply_any 20 1 0 (by omega) (by omega) (by omega) (by omega) w
  rwa [show apF 20 1 0 = (2246791068, 0) by decide +kernel] at h
theorem same_ex (va vc va' vc' : Value) (w : World) (ra : Arr w va exA) (rc : Cod w vc exC) (ra' : Arr w va' exA) (rc' : Cod w vc' exC) :
    Calls Try.prog 19 #[.agg #[va, .int .i64 1, vc], .agg #[va', .int .i64 1, vc']] w fun x w' => x = .returned (.bool true) ∧ Ext w w' := by
  have h := sameprog_any va vc va' vc' exA exA 1 1 exC exC w ra rc ra' rc'
  rwa [show sameP exA exA 1 1 exC exC = true by decide +kernel] at h
theorem by_ex : Bytes [1, 8, 1, 4, 0, 5, 2, 0, 32, 34, 7] := by intro x hx; simp at hx; omega

set_option maxHeartbeats 4000000 in
set_option maxRecDepth 100000 in
theorem awake_any (w : World) : Calls Try.prog 13 #[] w fun x w' => x = .returned (.bool true) ∧ Ext w w' := by
  obtain ⟨i0, hi, hz0, hz1, hz2⟩ := info_parts u8info
  have hex := example_any
  have hsm := same_ex
  replace hex := hidden hex
  replace hsm := hidden hsm
  go_enter Try.func13, Try.ntmps13
  go_wp2_with fail
  refine (hex.out _).mono ?_
  rintro e w1 ⟨vA, vC, rfl, rA, rC, g1⟩
  go_wp2_with fail
  refine (iencode_any vA vC exA 1 exC (by intro x hx; simp [exA] at hx; subst hx; simp) (by intro x hx; simp [exC] at hx; rcases hx with rfl | rfl | rfl | rfl <;> simp) (by omega) (by omega) _ rA rC).mono ?_
  rw [enc_ex]
  rintro e w2 ⟨b, rfl, hOb, g2⟩
  have O2 : Own8 w2 w.heap.size b [1, 8, 1, 4, 0, 5, 2, 0, 32, 34] := own_mono hOb g1.size
  have X2 := g1.trans g2
  have hs2 := X2.size
  clear hOb g1 g2 rA rC
  replace O2 := hidden O2
  go_wp2_with (at_builtin; refine wpList_append_kept _ rfl _ _ 34 rfl w.heap.size 5 i0 (.int .u8 0) 1 1 Try.underlying34 hi hz0 hz1 hz2 rfl (by decide) b 10 (bs [1, 8, 1, 4, 0, 5, 2, 0, 32, 34]) rfl (World.ownsRow.alloc O2.out _) ⟨w2.heap.size, 0, none⟩ 1 1 [.int .u8 7] rfl rfl (World.news_of_block (cs := #[.int .u8 7]) (t := 5) (fr := (0, 0)) (heap_alloc_new w2 _)) (by simp [Value.oneCell']) (by unfold maxLen; omega) (by omega) (by simp; omega) ?_; intro v3 w3 hown3 hgrow3 hb3 hkept3)
  have R3 : Rd8 w3 v3 [1, 8, 1, 4, 0, 5, 2, 0, 32, 34, 7] := Rd.of_own hown3
  have S3 : Rd8 w3 b [1, 8, 1, 4, 0, 5, 2, 0, 32, 34] := Rd.of_own hkept3
  have X3 : Ext w w3 := (((Chg.of_ext [] X2).alloc _).grown hgrow3 (fun k hk => Or.inr (own_lt O2.out hk).1)).ext
  clear hown3 hgrow3 hb3 hkept3 O2 X2 hs2
  refine (idecode_any v3 _ by_ex (by simp) _ R3).mono ?_
  rw [dec_ex2]
  rintro e w4 ⟨pA, pC, pr, rfl, oA, oC, oR, g4⟩
  have S4 := Rd.ext S3 g4
  have X4 := X3.trans g4
  have rA : Arr w4 pA exA := Rd.of_own oA
  have rC : Cod w4 pC exC := Rd.of_own oC
  have rR : Rd8 w4 pr [7] := Rd.of_own oR
  clear oA oC oR g4 S3 X3 R3
  obtain ⟨aA, cA1, rfl, -, -, -⟩ := Rd.shape rA
  obtain ⟨aC, cC1, rfl, -, -, -⟩ := Rd.shape rC
  obtain ⟨aR, cR, rfl, -, -, -⟩ := Rd.shape rR
  obtain ⟨bR, oR, rfl, -⟩ := Rd8.some rR (by simp)
  have z7 := Rd8.at rR 0 (by simp)
  simp at z7
  have B5 := Blk.new w4 [.slice aA exA.length cA1, .int .i64 1, .slice aC exC.length cC1] 33
  have K5 := (Ext.refl w4).alloc (.cells #[.slice aA exA.length cA1, .int .i64 1, .slice aC exC.length cC1] 33)
  go_wp2_with fail
  refine (ap_1 _).mono ?_
  rintro e w5 ⟨rfl, g5⟩
  go_wp2_with fail
  refine (ap_2 _).mono ?_
  rintro e w6 ⟨rfl, g6⟩
  go_wp2_with fail
  refine (ap_3 _).mono ?_
  rintro e w7 ⟨rfl, g7⟩
  go_wp2_with fail
  refine (ap_4 _).mono ?_
  rintro e w8 ⟨rfl, g8⟩
  have K8 := (((K5.trans g5).trans g6).trans g7).trans g8
  have B8 := (((B5.ext g5).ext g6).ext g7).ext g8
  have S8 := Rd.ext S4 K8
  have X8 := X4.trans K8
  have z8 := K8.cell z7
  have rA8 : Arr w8 (.slice aA exA.length cA1) exA := Rd.ext rA K8
  have rC8 : Cod w8 (.slice aC exC.length cC1) exC := Rd.ext rC K8
  have p0 := B8.cell 0 _ rfl
  have p1 := B8.cell 1 _ rfl
  have p2 := B8.cell 2 _ rfl
  obtain ⟨q4, hq4⟩ : ∃ q, w4.heap.size = q := ⟨_, rfl⟩
  rw [hq4] at p0 p1 p2
  replace rA8 := hidden rA8
  replace rC8 := hidden rC8
  replace S8 := hidden S8
  clear B5 K5 g5 g6 g7 g8 K8 B8 S4 X4 rA rC rR z7
  go_wp2_with fail
  go_region_held3 (fun w' => w'.cell? ⟨q4, 0, none⟩ = some (.slice aA exA.length cA1) ∧ w'.cell? ⟨q4, 1, none⟩ = some (.int .i64 1) ∧ w'.cell? ⟨q4, 2, none⟩ = some (.slice aC exC.length cC1) ∧ w'.cell? ⟨bR, oR, none⟩ = some (.int .u8 7)) (go_keep)
    (first
      | (go_at_call 31; refine (hex.out _).mono ?_; rintro e w9 ⟨xA, xC, rfl, xrA, xrC, g9⟩; have j0 := g9.cell p0; have j1 := g9.cell p1; have j2 := g9.cell p2; have j3 := g9.cell z8)
      | (go_at_call 19; refine (hsm.out _ _ _ _ _ (Rd.ext rA8.out ((Ext.refl w8).drew.trans g9)) (Rd.ext rC8.out ((Ext.refl w8).drew.trans g9)) xrA xrC).mono ?_; rintro e w10 ⟨rfl, g10⟩; have i0 := g10.cell j0; have i1 := g10.cell j1; have i2 := g10.cell j2; have i3 := g10.cell j3))
  have G10 := ((Ext.refl w8).drew.trans g9).trans g10
  have S10 : Rd8 (w10.alloc (.cells #[.int .u8 1, .int .u8 8, .int .u8 1, .int .u8 4, .int .u8 0, .int .u8 5, .int .u8 2, .int .u8 0, .int .u8 32, .int .u8 34] 5)) b [1, 8, 1, 4, 0, 5, 2, 0, 32, 34] := Rd.alloc (Rd.ext S8.out G10) _
  have L10 : Rd8 (w10.alloc (.cells #[.int .u8 1, .int .u8 8, .int .u8 1, .int .u8 4, .int .u8 0, .int .u8 5, .int .u8 2, .int .u8 0, .int .u8 32, .int .u8 34] 5)) (.slice (some ⟨w10.heap.size, 0, none⟩) 10 10) [1, 8, 1, 4, 0, 5, 2, 0, 32, 34] := rd_of_blk (Blk.new w10 (bs [1, 8, 1, 4, 0, 5, 2, 0, 32, 34]) 5) rfl (by omega)
  have X10 := X8.trans G10
  have hsb := same_any b (.slice (some ⟨w10.heap.size, 0, none⟩) 10 10) [1, 8, 1, 4, 0, 5, 2, 0, 32, 34] [1, 8, 1, 4, 0, 5, 2, 0, 32, 34] _ S10 L10
  simp only [decide_true] at hsb
  replace hsb := hidden hsb
  clear S10 L10 j0 j1 j2 j3 i0 i1 i2 i3 p0 p1 p2 z8 G10 S8 g9 g10
  go_wp2_with fail
  refine hsb.out.mono ?_
  rintro e w11 ⟨rfl, g11⟩
  go_wp2_with fail
  go_ret
  exact ⟨rfl, (X10.alloc _).trans g11⟩
end Go.Proofs.Ytchkbidekmaaiaa
