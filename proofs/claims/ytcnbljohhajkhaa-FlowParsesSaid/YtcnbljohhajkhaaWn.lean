/- Layer 18: the examples of the chapter. -/
import Derived.Test.YtcnbljohhajkhaaWm
import Derived.Test.YtcnbljohhajkhaaWg
namespace Go.Proofs.Ytcnbljohhajkhaa
open Go.RowKit
set_option linter.unusedVariables false
set_option linter.unusedSimpArgs false
attribute [local go_sem ↓] Go.wp_at_zero Go.wp_at_succ

theorem RdI.shape' {w : World} {v : Value} {l : List Int} (h : RdI w v l) : ∃ a cap, v = .slice a l.length cap ∧ l.length ≤ 9223372036854775807 := by
  obtain ⟨a, cap, e, h1, h2, -⟩ := Rd.shape h
  exact ⟨a, cap, e, by omega⟩
theorem equal_any (v v' : Value) (l : List Int) (w : World) (h : RdI w v l) (h' : RdI w v' l) :
    Calls Try.prog 18 #[v, v'] w fun x w' => x = .returned (.bool true) ∧ Ext w w' := by
  obtain ⟨a, cap, rfl, hl⟩ := h.shape'
  obtain ⟨a', cap', rfl, -⟩ := h'.shape'
  by_cases h0 : l.length = 0
  · rw [h0]
    refine (Go.Proofs.Try.slices_Equal_int_empty a a' cap 0 cap' w (by omega)).mono ?_
    rintro e w1 ⟨rfl, rfl⟩
    exact ⟨rfl, Ext.refl _⟩
  · obtain ⟨b, off, rfl, -, -⟩ := Rd.cells h (by omega)
    obtain ⟨b', off', rfl, -, -⟩ := Rd.cells h' (by omega)
    refine (Go.Proofs.Try.slices_Equal_int b off l.length cap b' off' l.length cap' l l w (Nat.le_refl _) (Nat.le_refl _) hl hl (fun j hj => RdI.at h j hj) (fun j hj => RdI.at h' j hj)).mono ?_
    rintro e w1 ⟨rfl, q, rfl⟩
    exact ⟨by simp, ((Chg.refl [] w).drewN q).ext⟩
theorem rd_blk {w : World} {b : Nat} {t : TypeId} {cs : List Value} {sz n : Nat} (h : Blk w b t cs) (hl : cs.length = n * sz) (hn : n ≤ 9223372036854775807) : Rd w sz (.slice (some ⟨b, 0, none⟩) n n) n cs := by
  refine ⟨hl, _, _, rfl, Nat.le_refl _, hn, by simp, fun _ => ⟨_, _, rfl, h.lt, fun j hj => ?_⟩⟩
  rw [Nat.zero_add]
  exact h.cell j _ (by rw [List.getD, List.getElem?_eq_getElem hj]; rfl)
theorem sub_blk {w : World} {b : Nat} {ty : TypeId} {cs : List Value} {t : T} {Q : Nat → Prop} (h : Blk w b ty cs) (hF : Fr w Q t cs) (hQ : Q b) (hn : t.len ≤ 9223372036854775807) : SubAt w Q (.slice (some ⟨b, 0, none⟩) t.len t.len) t :=
  ⟨cs, rd_blk h hF.length hn, fun k _ e => by simp only [Value.ownBlock, Option.some.injEq] at e; subst e; exact hQ, hF⟩
def C5 : List (Int × Int) := cofs [0, 29, 0, 6, 31]
def T5 : T := .cons (-1) 0 1 .nil .nil (.cons 29 1 5 (.cons (-1) 2 4 .nil .nil .nil) .nil .nil)
theorem par5 : parR C5 = (T5, 0, 0) := by kernel_rfl
theorem pair5 : pairR C5 = ([-1, 4, -1, -1, 1], 0) := by kernel_rfl
theorem loop5 : loopR C5 = ([1], 0) := by kernel_rfl
theorem fl5 : flF C5 T5 = C5 := by kernel_rfl
theorem ok5 : okF C5 0 T5 := by
  simp [T5, okF, okB, C5, cofs, T.len, opAt]
theorem parA : parR (cofs [31]) = (.nil, 0, 15) := by kernel_rfl
theorem parB : parR (cofs [29]) = (.nil, 1, 15) := by kernel_rfl
theorem parD : parR (cofs [27, 30, 31]) = (.nil, 1, 15) := by kernel_rfl
theorem fr_nil (w : World) (Q : Nat → Prop) : ∃ cb, Rd w 5 (.slice none 0 0) T.nil.len cb ∧ (∀ k, 0 < T.nil.len → (Value.slice none 0 0).ownBlock = some k → Q k) ∧ Fr w Q .nil cb := SubAt.nil w Q
set_option maxHeartbeats 2000000 in
set_option maxRecDepth 100000 in
theorem awake_any (hL : ∀ C f, ListOK C f) (w : World) : Calls Try.prog 10 #[] w fun x w' => x = .returned (.bool true) ∧ Ext w w' := by
  have hd1 := hidden demand_true
  go_enter Try.func10, Try.ntmps10
  have X0 := (Ext.refl w).alloc (.cells #[.int .i64 0, .int .i64 29, .int .i64 0, .int .i64 6, .int .i64 31] 3)
  have B0 := Blk.new w [.int .i64 0, .int .i64 29, .int .i64 0, .int .i64 6, .int .i64 31] 3
  have hc := hidden (code_any _ [0, 29, 0, 6, 31] _ (show RdI _ (.slice (some ⟨w.heap.size, 0, none⟩) 5 5) _ from rd_blk (sz := 1) (n := 5) B0 rfl (by decide)) (by decide))
  go_wp2_with fail
  refine hc.out.mono ?_
  rintro e w1 ⟨vc, rfl, hO, hX⟩
  have hX1 := X0.trans hX
  have HC := hidden (OwnC.rd hO)
  have hp := hidden (parse_any hL vc C5 w1 HC.out)
  replace hX1 := hidden hX1
  clear hO hX hc X0 B0
  go_wp2_with fail
  refine hp.out.mono ?_
  rintro e w2 ⟨vt, rfl, hS, hX⟩
  rw [par5] at hS ⊢
  have HC2 := hidden (HC.out.ext hX)
  have HS2 := hidden hS
  have hX2 := hidden (hX1.out.trans hX)
  have hpa := hidden (pair_any hL vc C5 w2 HC2.out)
  clear hp hS hX
  go_wp2_with fail
  refine hpa.out.mono ?_
  rintro e w3 ⟨vp, rfl, hO, hX⟩
  rw [pair5] at hO ⊢
  have HC3 := hidden (HC2.out.ext hX)
  have HS3 := hidden (HS2.out.chg (Chg.of_ext [] hX) (by simp) (fun _ _ h => h))
  have HP3 := hidden (OwnI.rd hO)
  have hX3 := hidden (hX2.out.trans hX)
  have hfl := hidden (flatten_any vt vc C5 T5 w3 _ HC3.out HS3.out (by decide) ok5 (by rw [fl5]; decide))
  clear hpa hO hX HC HC2 HS2
  go_wp2_with fail
  refine hfl.out.mono ?_
  rintro e w4 ⟨vf, rfl, hO, hX⟩
  rw [fl5] at hO
  have HC4 := hidden (HC3.out.ext hX)
  have HS4 := hidden (HS3.out.chg (Chg.of_ext [] hX) (by simp) (fun _ _ h => h))
  have HP4 := hidden (Rd.ext HP3.out hX : RdI w4 vp _)
  have HF4 := hidden (OwnC.rd hO)
  have hX4 := hidden (hX3.out.trans hX)
  have hlo := hidden (loops_any hL vc C5 w4 HC4.out)
  clear hfl hO hX HC3 HS3 HP3
  go_wp2_with fail
  refine hlo.out.mono ?_
  rintro e w5 ⟨vl, rfl, hO, hX⟩
  rw [loop5] at hO ⊢
  have HC5 := hidden (HC4.out.ext hX)
  have HS5 := hidden (HS4.out.chg (Chg.of_ext [] hX) (by simp) (fun _ _ h => h))
  have HP5 := hidden (Rd.ext HP4.out hX : RdI w5 vp _)
  have HF5 := hidden (HF4.out.ext hX)
  have HL5 := hidden (OwnI.rd hO)
  have hX5 := hidden (hX4.out.trans hX)
  clear hlo hO hX HC4 HS4 HP4 HF4 hX1 hX2 hX3 hX4
  go_wp2_with fail
  have X6 := ((Ext.refl w5).alloc (.cells #[.int .i64 (-1), .int .i64 2, .int .i64 4, .slice none 0 0, .slice none 0 0] 47)).alloc (.cells #[.int .i64 (-1), .int .i64 0, .int .i64 1, .slice none 0 0, .slice none 0 0, .int .i64 29, .int .i64 1, .int .i64 5, .slice (some ⟨w5.heap.size, 0, none⟩) 1 1, .slice none 0 0] 47)
  have B1 := (Blk.new w5 [.int .i64 (-1), .int .i64 2, .int .i64 4, .slice none 0 0, .slice none 0 0] 47).alloc (.cells #[.int .i64 (-1), .int .i64 0, .int .i64 1, .slice none 0 0, .slice none 0 0, .int .i64 29, .int .i64 1, .int .i64 5, .slice (some ⟨w5.heap.size, 0, none⟩) 1 1, .slice none 0 0] 47)
  have B2 := Blk.new (w5.alloc (.cells #[.int .i64 (-1), .int .i64 2, .int .i64 4, .slice none 0 0, .slice none 0 0] 47)) [.int .i64 (-1), .int .i64 0, .int .i64 1, .slice none 0 0, .slice none 0 0, .int .i64 29, .int .i64 1, .int .i64 5, .slice (some ⟨w5.heap.size, 0, none⟩) 1 1, .slice none 0 0] 47
  rw [show (w5.alloc (.cells #[.int .i64 (-1), .int .i64 2, .int .i64 4, .slice none 0 0, .slice none 0 0] 47)).heap.size = w5.heap.size + 1 by simp] at B2
  have hsn := SubAt.nil ((w5.alloc (.cells #[.int .i64 (-1), .int .i64 2, .int .i64 4, .slice none 0 0, .slice none 0 0] 47)).alloc (.cells #[.int .i64 (-1), .int .i64 0, .int .i64 1, .slice none 0 0, .slice none 0 0, .int .i64 29, .int .i64 1, .int .i64 5, .slice (some ⟨w5.heap.size, 0, none⟩) 1 1, .slice none 0 0] 47)) (fun _ => True)
  have hs1 := sub_blk (Q := fun _ => True) (t := .cons (-1) 2 4 .nil .nil .nil) B1 ⟨_, _, _, rfl, hsn, hsn, rfl⟩ trivial (by decide)
  have hs2 := sub_blk (Q := fun _ => True) (t := T5) B2 ⟨_, _, _, rfl, hsn, hsn, _, _, _, rfl, hs1, hsn, rfl⟩ trivial (by decide)
  refine (same_all T5 _ _ _ vt _ (HS5.out.chg (Chg.of_ext [] X6) (by simp) (fun _ _ h => h)) hs2).mono ?_
  rintro e w6 ⟨rfl, hX⟩
  have X7 := X6.trans hX
  have HC6 := hidden (HC5.out.ext X7)
  have HS6 := hidden (HS5.out.chg (Chg.of_ext [] X7) (by simp) (fun _ _ h => h))
  have HP6 := hidden (Rd.ext HP5.out X7 : RdI w6 vp _)
  have HF6 := hidden (HF5.out.ext X7)
  have HL6 := hidden (Rd.ext HL5.out X7 : RdI w6 vl _)
  have hX6 := hidden (hX5.out.trans X7)
  clear X6 X7 hX B1 B2 hsn hs1 hs2 HC5 HS5 HP5 HF5 HL5 hX5
  have X8 := (Ext.refl w6).alloc (.cells #[.int .i64 (-1), .int .i64 4, .int .i64 (-1), .int .i64 (-1), .int .i64 1] 3)
  have B3 := Blk.new w6 [.int .i64 (-1), .int .i64 4, .int .i64 (-1), .int .i64 (-1), .int .i64 1] 3
  have heq := hidden (equal_any vp _ [-1, 4, -1, -1, 1] _ (Rd.ext HP6.out X8) (show RdI _ (.slice (some ⟨w6.heap.size, 0, none⟩) 5 5) _ from rd_blk (sz := 1) (n := 5) B3 rfl (by decide)))
  replace X8 := hidden X8
  clear B3
  go_wp2_with fail
  refine heq.out.mono ?_
  rintro e w7 ⟨rfl, hX⟩
  have X9 := X8.out.trans hX
  have HC7 := hidden (HC6.out.ext X9)
  have HS7 := hidden (HS6.out.chg (Chg.of_ext [] X9) (by simp) (fun _ _ h => h))
  have HF7 := hidden (HF6.out.ext X9)
  have HL7 := hidden (Rd.ext HL6.out X9 : RdI w7 vl _)
  have hX7 := hidden (hX6.out.trans X9)
  clear heq hX X8 X9 HC6 HS6 HP6 HF6 HL6 hX6
  have B4 := Blk.new w7 [.int .i64 31] 3
  have hca := hidden (code_any _ [31] _ (show RdI _ (.slice (some ⟨w7.heap.size, 0, none⟩) 1 1) _ from rd_blk (sz := 1) (n := 1) B4 rfl (by decide)) (by decide))
  clear B4
  go_wp2_with fail
  refine hca.out.mono ?_
  rintro e w8 ⟨va, rfl, hOa, hXa⟩
  obtain ⟨aa, ca, rfl, -⟩ := own_shape (show w8.ownsRow _ _ _ _ _ _ from hOa)
  have HA := OwnC.rd hOa
  have hX8 := hX7.out.trans (((Ext.refl w7).alloc _).trans hXa)
  have hXX8 := (((Ext.refl w7).alloc (.cells #[.int .i64 31] 3)).trans hXa)
  replace HA := hidden HA
  replace hX8 := hidden hX8
  replace hXX8 := hidden hXX8
  clear hca hOa hXa
  have B4 := Blk.new w8 [.int .i64 29] 3
  have hcb := hidden (code_any _ [29] _ (show RdI _ (.slice (some ⟨w8.heap.size, 0, none⟩) 1 1) _ from rd_blk (sz := 1) (n := 1) B4 rfl (by decide)) (by decide))
  clear B4
  go_wp2_with fail
  refine hcb.out.mono ?_
  rintro e w9 ⟨vb, rfl, hOb, hXb⟩
  obtain ⟨ab, cb, rfl, -⟩ := own_shape (show w9.ownsRow _ _ _ _ _ _ from hOb)
  have HB := hidden (OwnC.rd hOb)
  have hXX9 := hidden (((Ext.refl w8).alloc (.cells #[.int .i64 29] 3)).trans hXb)
  clear hcb hOb hXb
  have B4 := Blk.new w9 [.int .i64 27, .int .i64 30, .int .i64 31] 3
  have hcd := hidden (code_any _ [27, 30, 31] _ (show RdI _ (.slice (some ⟨w9.heap.size, 0, none⟩) 3 3) _ from rd_blk (sz := 1) (n := 3) B4 rfl (by decide)) (by decide))
  clear B4
  go_wp2_with fail
  refine hcd.out.mono ?_
  rintro e w10 ⟨vd, rfl, hOd, hXd⟩
  obtain ⟨ad, cd, rfl, -⟩ := own_shape (show w10.ownsRow _ _ _ _ _ _ from hOd)
  have HD := hidden (OwnC.rd hOd)
  have hXX10 := hidden (((Ext.refl w9).alloc (.cells #[.int .i64 27, .int .i64 30, .int .i64 31] 3)).trans hXd)
  clear hcd hOd hXd
  obtain ⟨h, hh⟩ : ∃ h, w10.heap.size = h := ⟨_, rfl⟩
  have B5 := Blk.new w10 [.slice aa (cofs [31]).length ca, .int .i64 0, .slice ab (cofs [29]).length cb, .int .i64 1, .slice ad (cofs [27, 30, 31]).length cd, .int .i64 1] 52
  have X11 := (Ext.refl w10).alloc (.cells #[.slice aa (cofs [31]).length ca, .int .i64 0, .slice ab (cofs [29]).length cb, .int .i64 1, .slice ad (cofs [27, 30, 31]).length cd, .int .i64 1] 52)
  have hK : ∀ k : Nat, k < 3 → ∃ (n : Nat) (a : Option Addr) (c : Nat) (y : Int) (D : List (Int × Int)), (∀ W, Ext (w10.alloc (.cells #[.slice aa (cofs [31]).length ca, .int .i64 0, .slice ab (cofs [29]).length cb, .int .i64 1, .slice ad (cofs [27, 30, 31]).length cd, .int .i64 1] 52)) W → W.cell? ⟨w10.heap.size, k * 2, none⟩ = some (.slice a n c) ∧ W.cell? ⟨w10.heap.size, k * 2 + 1, none⟩ = some (.int .i64 y) ∧ Code18 W (.slice a n c) D) ∧ parR D = (.nil, y, 15) := by
    intro k hk
    have hAB := hXX9.out.trans hXX10.out
    match k, hk with
    | 0, _ => exact ⟨_, aa, ca, 0, cofs [31], fun W X => ⟨(B5.ext X).cell 0 _ rfl, (B5.ext X).cell 1 _ rfl, HA.out.ext (hAB.trans (X11.trans X))⟩, parA⟩
    | 1, _ => exact ⟨_, ab, cb, 1, cofs [29], fun W X => ⟨(B5.ext X).cell 2 _ rfl, (B5.ext X).cell 3 _ rfl, HB.out.ext (hXX10.out.trans (X11.trans X))⟩, parB⟩
    | 2, _ => exact ⟨_, ad, cd, 1, cofs [27, 30, 31], fun W X => ⟨(B5.ext X).cell 4 _ rfl, (B5.ext X).cell 5 _ rfl, HD.out.ext (X11.trans X)⟩, parD⟩
  have hX12 := hidden (((hXX8.out.trans hXX9.out).trans hXX10.out).trans X11)
  replace hK := hidden hK
  replace X11 := hidden X11
  replace hh := hidden hh
  clear B5 HA HB HD hXX8 hXX9 hXX10 hX8
  go_wp2_with fail
  obtain ⟨Wb, hWb⟩ : ∃ Wb, w10.alloc (.cells #[.slice aa (cofs [31]).length ca, .int .i64 0, .slice ab (cofs [29]).length cb, .int .i64 1, .slice ad (cofs [27, 30, 31]).length cd, .int .i64 1] 52) = Wb := ⟨_, rfl⟩
  rw [hWb] at hK hX12 X11 ⊢
  replace hWb := hidden hWb
  go_loopw [75] (fun ix wr => ∃ (k : Nat), k ≤ 3 ∧ ix = .int .i64 (k : Int) ∧ Hid (Ext Wb wr)) (fun ix _ => (3 - intOf ix).toNat)
  case atStart => exact ⟨0, by omega, rfl, Ext.refl Wb⟩
  case round =>
    obtain ⟨k, hk, rfl, hX⟩ := hrel
    obtain ⟨W, hWW⟩ : ∃ Z, Z = wr := ⟨_, rfl⟩
    subst hWW
    by_cases hlt : k < 3
    · have hlt' : (k : Int) < 3 := by omega
      obtain ⟨n, a, c, y, D, hKk, hpR⟩ := hK.out k hlt
      obtain ⟨x0, x1, hcd⟩ := hKk W hX.out
      have X1 := (Ext.refl W).alloc (.cells #[.slice a n c, .int .i64 y] 52)
      have N1 := Blk.new W [.slice a n c, .int .i64 y] 52
      have c0 := N1.cell 0 _ rfl
      have hp := hidden (parse_any hL _ D _ (hcd.ext X1))
      have hkw : IntKind.i64.wrap ((k : Int) + 1) = (k : Int) + 1 := IntWalk.i64_in _ (by omega)
      replace hpR := hidden hpR
      replace hcd := hidden hcd
      replace N1 := hidden N1
      clear hKk
      go_wp2_with fail
      refine hp.out.mono ?_
      rintro e w20 ⟨v20, rfl, -, hX20⟩
      rw [hpR.out]
      have c1 := (N1.out.ext hX20).cell 1 _ rfl
      have hX21 := hidden (hX.out.trans (X1.trans hX20))
      clear hp hX20 X1 N1 c0 x0 x1
      go_wp2_with fail
      go_roundw
      case rel => exact ⟨k + 1, by omega, by go_num, hX21⟩
      case measure => simp [intOf]; omega
    · obtain rfl : k = 3 := by omega
      have X13 := hidden (X11.out.trans hX.out)
      have X14 := hidden (hX12.out.trans hX.out)
      have HC8 := hidden (HC7.out.ext X14.out)
      have HS8 := hidden (HS7.out.chg (Chg.of_ext [] X14.out) (by simp) (fun _ _ h => h))
      have HF8 := hidden (HF7.out.ext X14.out)
      have HL8 := hidden (Rd.ext HL7.out X14.out : RdI W vl _)
      have hX8 := hidden (hX7.out.trans X14.out)
      have hsc := hidden (samecode_any vf vc C5 W HF8.out HC8.out)
      clear hK HC7 HS7 HF7 HL7 hX7 hX12 X11 X13 X14 hX
      go_wp2_with fail
      refine hsc.out.mono ?_
      rintro e w30 ⟨rfl, hX30⟩
      have X31 := (Ext.refl w30).alloc (.cells #[.int .i64 1] 3)
      have B5 := Blk.new w30 [.int .i64 1] 3
      have heq := hidden (equal_any vl _ [1] _ (Rd.ext HL8.out (hX30.trans X31)) (show RdI _ (.slice (some ⟨w30.heap.size, 0, none⟩) 1 1) _ from rd_blk (sz := 1) (n := 1) B5 rfl (by decide)))
      have hX31 := hidden (hX30.trans X31)
      clear hsc hX30 X31 B5
      go_wp2_with fail
      refine heq.out.mono ?_
      rintro e w32 ⟨rfl, hX32⟩
      have X33 := hX31.out.trans hX32
      have hdp := hidden (depth_all T5 w32 _ vt (HS8.out.chg (Chg.of_ext [] X33) (by simp) (fun _ _ h => h)) (by decide))
      have hX33 := hidden (hX8.out.trans X33)
      clear heq X33 hX32
      go_wp2_with fail
      refine hdp.out.mono ?_
      rintro e w34 ⟨rfl, hX34⟩
      have hX35 := hidden (hX33.out.trans hX34)
      have hd5 : ((dpF T5 : Nat) : Int) = 1 := by decide
      rw [hd5]
      clear hdp hX34 hd5
      go_wp2_with fail
      go_ret
      exact ⟨rfl, hX35.out⟩
theorem few_any (v : Value) (C : List (Int × Int)) (w : World) (h : Code18 w v C) :
    Calls Try.prog 9 #[v] w fun x w' => x = .returned (.bool (decide (C.length ≤ 100 ∨ 1024 < C.length ∧ C.length < 1033))) ∧ w' = w := by
  obtain ⟨a, cap, rfl, hcap, hcap2, -⟩ := Rd.shape h
  obtain ⟨n, hn⟩ : ∃ n, C.length = n := ⟨_, rfl⟩
  rw [hn] at hcap ⊢
  clear h hn
  go_enter Try.func9, Try.ntmps9
  by_cases h1 : n ≤ 100
  · have q1 : decide ((n : Int) ≤ 100) = true := by simp; omega
    go_wp2_with fail
    go_ret
    exact ⟨ret_bool (by simp [h1]), rfl⟩
  · have q1 : decide ((n : Int) ≤ 100) = false := by simp; omega
    by_cases h2 : 1024 < n
    · have q2 : decide ((1024 : Int) < (n : Int)) = true := by simp; omega
      by_cases h3 : n < 1033
      · have q3 : decide ((n : Int) < 1033) = true := by simp; omega
        go_wp2_with fail
        go_ret
        exact ⟨ret_bool (by simp [h1, h2, h3]), rfl⟩
      · have q3 : decide ((n : Int) < 1033) = false := by simp; omega
        go_wp2_with fail
        go_ret
        exact ⟨ret_bool (by simp [h1, h2, h3]), rfl⟩
    · have q2 : decide ((1024 : Int) < (n : Int)) = false := by simp; omega
      go_wp2_with fail
      go_ret
      exact ⟨ret_bool (by simp [h1, h2]), rfl⟩
end Go.Proofs.Ytcnbljohhajkhaa
