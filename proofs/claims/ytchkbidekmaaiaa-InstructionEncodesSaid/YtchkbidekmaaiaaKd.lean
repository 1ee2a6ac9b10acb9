/- The reference of layer 15: Encode. -/
import Derived.Test.YtchkbidekmaaiaaKc
import Derived.Test.YtchkbidekmaaiaaKa
import Derived.Test.YtchkbidekmaaiaaRk
namespace Go.Proofs.Ytchkbidekmaaiaa
open Go.RowKit
set_option linter.unusedVariables false
attribute [local go_sem ↓] Go.wp_at_zero Go.wp_at_succ

theorem rencode_bad (va vc : Value) (A : List (Bool × Int)) (L : Int) (C : List (Int × Int)) (hA : OkA A) (hC : OkI C) (hL0 : -9223372036854775808 ≤ L) (hL1 : L ≤ 9223372036854775807) (hz : formE A L C ≠ 0) (w : World) (ra : Arr w va A) (rc : Cod w vc C) :
    Calls Try.prog 15 #[.agg #[va, .int .i64 L, vc]] w (EncPost w (encF A L C)) := by
  have hf := fun W (g : Ext w W) => rform_any va vc A L C hA hC hL0 hL1 W (Rd.ext ra g) (Rd.ext rc g)
  have hE : Hid (encF A L C = (formE A L C, [])) := by show _ = _; unfold encF; exact if_pos hz
  obtain ⟨e0, he0⟩ : ∃ e, formE A L C = e := ⟨_, rfl⟩
  rw [he0] at hf hz hE
  have hz' : (e0 != 0) = true := by simp [hz]
  replace hf := hidden hf
  clear he0 hz ra rc
  go_enter Try.func15, Try.ntmps15
  go_wp2_with fail
  refine (hf.out _ ((Ext.refl w).alloc _)).mono ?_
  rintro e w1 ⟨rfl, g1⟩
  go_wp2_with fail
  go_ret2
  show EncPost w (encF A L C) _ _
  rw [hE.out]
  exact ⟨_, rfl, World.ownsRow_nil _ _ _ _, g1.past⟩

set_option maxHeartbeats 4000000 in
set_option maxRecDepth 100000 in
theorem rencode_good (va vc : Value) (A : List (Bool × Int)) (L : Int) (C : List (Int × Int)) (hA : OkA A) (hC : OkI C) (hL0 : -9223372036854775808 ≤ L) (hL1 : L ≤ 9223372036854775807) (hz : formE A L C = 0) (w : World) (ra : Arr w va A) (rc : Cod w vc C) :
    Calls Try.prog 15 #[.agg #[va, .int .i64 L, vc]] w (EncPost w (encF A L C)) := by
  have hf := fun W (g : Ext w W) => rform_any va vc A L C hA hC hL0 hL1 W (Rd.ext ra g) (Rd.ext rc g)
  have hE : Hid (encF A L C = (0, progB A L C)) := by show _ = _; unfold encF; exact if_neg (by simp [hz])
  rw [hz] at hf
  obtain ⟨k1, k2, k3, k4, k5, k6, k7⟩ := form_ok hz
  obtain ⟨aa, ca, rfl, a1, a2, a3⟩ := Rd.shape ra
  obtain ⟨ac, cc, rfl, c1, c2, c3⟩ := Rd.shape rc
  obtain ⟨m, hm⟩ : ∃ m, A.length = m := ⟨_, rfl⟩
  obtain ⟨n, hn⟩ : ∃ n, C.length = n := ⟨_, rfl⟩
  have RA : Rd w 2 (.slice aa A.length ca) A.length (A.flatMap cA) := ra
  have RC : Rd w 2 (.slice ac C.length cc) C.length (C.flatMap cI) := rc
  rw [hn] at RC c1 k5
  rw [hm] at RA a1 k1
  simp only [hm, hn] at hf ⊢
  have wm : wnum (m : Int) = m := wnum_id (by omega) (by omega)
  have wn : wnum (n : Int) = n := wnum_id (by omega) (by omega)
  have wL : wnum L = L := wnum_id (by omega) (by omega)
  have HB : Blk (w.alloc (.cells #[.slice aa m ca, .int .i64 L, .slice ac n cc] 33)) w.heap.size 33 [.slice aa m ca, .int .i64 L, .slice ac n cc] := Blk.new w _ _
  have gB := (Ext.refl w).alloc (.cells #[.slice aa m ca, .int .i64 L, .slice ac n cc] 33)
  have k2 := hidden k2
  have k6 := hidden k6
  replace hm := hidden hm
  replace hn := hidden hn
  replace RA := hidden RA
  replace RC := hidden RC
  replace hC := hidden hC
  replace wm := hidden wm
  replace wn := hidden wn
  replace wL := hidden wL
  replace hf := hidden hf
  have hpi := fun (v : Value) (D : List Int) (n : Int) (hD : D.length ≤ 900000) (w : World) (h : Rd8 w v D) => rputint_any v D n hD w h
  replace hpi := hidden hpi
  have hha := rhasarg_any
  replace hha := hidden hha
  clear hA hz ra rc k7
  go_enter Try.func15, Try.ntmps15
  go_wp2_with fail
  refine (hf.out _ gB).mono ?_
  rintro e w1 ⟨rfl, g1⟩
  have HB1 := HB.ext g1
  have X1 := gB.trans g1
  have p0 := HB1.cell 0 _ rfl
  have p1 := HB1.cell 1 _ rfl
  have p2 := HB1.cell 2 _ rfl
  go_wp2_with fail
  (with_reducible refine (hpi.out _ [] (m : Int) (by simp) _ (Rd8.nil _)).mono ?_)
  rw [wm.out]
  rintro e w2 ⟨v2, rfl, hO2, g2⟩
  rw [List.nil_append] at hO2
  have HB2 := HB1.ext g2
  have X2 := X1.trans g2
  clear p0 p1 p2
  have O2 : Own8 w2 w.heap.size v2 (wenc m) := own_mono hO2 X1.size
  go_wp2_with fail
  go_loopw [5, 6] (fun b i wr => ∃ (k : Nat), k ≤ m ∧ i = .int .i64 (k : Int) ∧ Own8 wr w.heap.size b (wenc m ++ encA (A.take k)) ∧ Hid (Blk wr w.heap.size 33 [.slice aa m ca, .int .i64 L, .slice ac n cc]) ∧ Ext w wr) (fun _ i _ => m - (intOf i).toNat)
  case atStart => exact ⟨0, by omega, rfl, by simpa [encA] using O2, HB2, X2⟩
  case round =>
    clear HB1 HB2 X1 X2 O2 hO2 g1 g2
    obtain ⟨k, hk, rfl, hO, HBr, X⟩ := hrel
    have q0 := HBr.out.cell 0 _ rfl
    by_cases hlt : k < m
    · obtain ⟨b, off, rfl, -, -⟩ := RA.out.cells (by omega)
      obtain ⟨x, hx, hxm⟩ := at_lt A (k := k) (by rw [hm.out]; exact hlt)
      obtain ⟨x0, x1⟩ := k2.out x hxm
      obtain ⟨c0, c1⟩ := rd2_at cA_len RA.out k x hx _ _ rfl
      have hdr : encA (A.take (k + 1)) = encA (A.take k) ++ wenc (wnum (arrN x)) := by
        rw [List.take_succ_eq_append_getElem (by rw [hm.out]; exact hlt), encA_snoc]
        rw [(List.getElem?_eq_some_iff.1 hx).2]
      obtain ⟨wd, sz⟩ := x
      simp only at x0 x1 c0 c1
      have d0 := X.cell c0
      have d1 := X.cell c1
      clear c0 c1 hx hxm
      replace hdr := hidden hdr
      have hl1 := wenc_8 (m : Int) (by omega) (by omega)
      have hl2 := encA_len (A.take k)
      have hl3 : (A.take k).length ≤ k := List.length_take_le _ _
      have hlD : (wenc m ++ encA (A.take k)).length ≤ 900000 := by rw [List.length_append]; omega
      clear hl1 hl2 hl3
      obtain ⟨D, hD⟩ : ∃ D, wenc m ++ encA (A.take k) = D := ⟨_, rfl⟩
      rw [hD] at hO hlD
      replace hD := hidden hD
      have hs := X.size
      cases wd with
      | false =>
        have hn2 : Hid (2 * sz = arrN (false, sz)) := by show _ = _; simp [arrN]
        go_wp2_with fail
        (with_reducible refine (hpi.out u5 D (2 * sz) hlD _ (Own8.rd hO)).mono ?_)
        rw [hn2.out]
        rintro e w5 ⟨v5, rfl, hO5, g5⟩
        have hO6 : Own8 w5 w.heap.size v5 (wenc m ++ encA (A.take (k + 1))) := by
          rw [hdr.out, ← List.append_assoc, hD.out]
          exact own_mono hO5 hs
        go_wp2_with fail
        go_roundw
        case rel => exact ⟨k + 1, by omega, by go_num, hO6, HBr.out.ext g5, X.trans g5⟩
        case measure => simp [intOf]; omega
      | true =>
        have hn2 : Hid (2 * sz + 1 = arrN (true, sz)) := by show _ = _; simp [arrN]
        go_wp2_with fail
        (with_reducible refine (hpi.out u5 D (2 * sz + 1) hlD _ (Own8.rd hO)).mono ?_)
        rw [hn2.out]
        rintro e w5 ⟨v5, rfl, hO5, g5⟩
        have hO6 : Own8 w5 w.heap.size v5 (wenc m ++ encA (A.take (k + 1))) := by
          rw [hdr.out, ← List.append_assoc, hD.out]
          exact own_mono hO5 hs
        go_wp2_with fail
        go_roundw
        case rel => exact ⟨k + 1, by omega, by go_num, hO6, HBr.out.ext g5, X.trans g5⟩
        case measure => simp [intOf]; omega
    · obtain rfl : k = m := by omega
      have hlA : A.take k = A := List.take_of_length_le (by rw [hm.out]; exact Nat.le_refl _)
      rw [hlA] at hO
      clear hlA
      have hl1 := wenc_8 (k : Int) (by omega) (by omega)
      have hl2 := encA_len A
      rw [hm.out] at hl2
      have hlD : (wenc k ++ encA A).length ≤ 80 := by rw [List.length_append]; omega
      have hlD' : (wenc k ++ encA A).length ≤ 900000 := by omega
      clear hl1 hl2
      obtain ⟨D, hD⟩ : ∃ D, wenc k ++ encA A = D := ⟨_, rfl⟩
      rw [hD] at hO hlD hlD'
      replace hD := hidden hD
      have r1 := HBr.out.cell 1 _ rfl
      have l8 := wenc_8 L k3 (by omega)
      have L5 : (D ++ wenc L).length ≤ 900000 := by rw [List.length_append]; omega
      have L6 : (D ++ wenc L).length ≤ 88 := by rw [List.length_append]; omega
      go_wp2_with fail
      (with_reducible refine (hpi.out u5 D L hlD' _ (Own8.rd hO)).mono ?_)
      rw [wL.out]
      rintro e w5 ⟨v5, rfl, hO5, g5⟩
      have HB5 := HBr.out.ext g5
      have s2 := HB5.cell 2 _ rfl
      clear q0 r1
      go_wp2_with fail
      (with_reducible refine (hpi.out v5 (D ++ wenc L) (n : Int) L5 _ (Own8.rd hO5)).mono ?_)
      rw [wn.out]
      rintro e w6 ⟨v6, rfl, hO6, g6⟩
      have hs5 := g5.size
      have hs0 := X.size
      obtain ⟨H, hH⟩ : ∃ H, D ++ wenc L ++ wenc n = H := ⟨_, rfl⟩
      rw [hH] at hO6
      have hHl : H.length ≤ 96 := by
        have := wenc_8 (n : Int) (by omega) (by omega)
        rw [← hH, List.length_append]; omega
      have O6 : Own8 w6 w.heap.size v6 H := own_mono hO6 (Nat.le_trans hs0 hs5)
      have X6 : Ext w w6 := (X.trans g5).trans g6
      have HB6 := HB5.ext g6
      obtain ⟨i0, hi, hz0, hz1, hz2⟩ := info_parts u8info
      replace HB6 := hidden HB6
      replace hH := hidden hH
      clear s2 HB5 hO5 g5 g6 hO6 hs5 hs0 hO HBr X L5 L6 l8 hlD hlD'
      go_wp2_with fail
      go_loopw [5, 8] (fun b i wr => ∃ (j : Nat), j ≤ n ∧ i = .int .i64 (j : Int) ∧ Own8 wr w.heap.size b (H ++ encC (C.take j)) ∧ Hid (Blk wr w.heap.size 33 [.slice aa k ca, .int .i64 L, .slice ac n cc]) ∧ Ext w wr) (fun _ i _ => n - (intOf i).toNat)
      case atStart => exact ⟨0, by omega, rfl, by simpa [encC] using O6, HB6, X6⟩
      case round =>
        clear HB6 X6 O6
        obtain ⟨j, hj, rfl, hO, HBr, X⟩ := hrel
        have p2 := HBr.out.cell 2 _ rfl
        by_cases hlt : j < n
        · obtain ⟨b, off, rfl, -, -⟩ := RC.out.cells (by omega)
          obtain ⟨x, hx, hxm⟩ := at_lt C (k := j) (by rw [hn.out]; exact hlt)
          obtain ⟨-, x2, x3⟩ := hC.out x hxm
          have hck := codE_ok C k6.out x hxm
          obtain ⟨c0, c1⟩ := rd2_at cI_len RC.out j x hx _ _ rfl
          have hdr : encC (C.take (j + 1)) = encC (C.take j) ++ encI x := by
            rw [List.take_succ_eq_append_getElem (by rw [hn.out]; exact hlt), encC_snoc]
            rw [(List.getElem?_eq_some_iff.1 hx).2]
          obtain ⟨op, arg⟩ := x
          simp only at x2 x3 c0 c1 hck
          obtain ⟨o0, o1⟩ := chk_ok hck
          have hls := encC_len (C.take j) (fun z hz => (hC.out z (List.mem_of_mem_take hz)).2)
          have hlt2 : (C.take j).length ≤ j := List.length_take_le _ _
          have hlD : (H ++ encC (C.take j)).length ≤ 20000 := by rw [List.length_append]; omega
          clear hls hlt2 hck
          obtain ⟨D2, hD2⟩ : ∃ D, H ++ encC (C.take j) = D := ⟨_, rfl⟩
          rw [hD2] at hO hlD
          replace hD2 := hidden hD2
          replace hdr := hidden hdr
          have d0 := X.cell c0
          have d1 := X.cell c1
          have hsz := X.size
          have hne := hidden (own_ne_blk hO HBr.out (by decide))
          have hha2 := hha.out op
          obtain ⟨t4, ht4⟩ : ∃ t, (opAt op).2.2.2.2 = t := ⟨_, rfl⟩
          rw [ht4] at hha2
          have hei : Hid (encI (op, arg) = op :: (if t4 then wenc arg else [])) := by
            show _ = _
            unfold encI
            simp only [ht4]
            rw [Int.emod_eq_of_lt o0 (by omega)]
          replace hha2 := hidden hha2
          have HB9 := HBr.out.alloc (.cells #[.int .u8 op] 5)
          have hrow : Hid (∀ k, u5.ownBlock = some k → w.heap.size ≤ k) := fun k hk => (own_lt hO hk).1
          replace HB9 := hidden HB9
          have c0' := hidden c0
          have c1' := hidden c1
          clear ht4 c0 c1 hx hxm
          go_wp2_with (at_builtin; refine wpList_append_own _ rfl _ _ 34 rfl w.heap.size 5 i0 (.int .u8 0) 1 1 Try.underlying34 hi hz0 hz1 hz2 rfl (by decide) u5 D2.length (bs D2) rfl (World.ownsRow.alloc hO _) ⟨wr.heap.size, 0, none⟩ 1 1 [.int .u8 op] rfl rfl (World.news_of_block (cs := #[.int .u8 op]) (t := 5) (fr := (0, 0)) (heap_alloc_new wr _)) (by simp [Value.oneCell']) (by unfold maxLen; omega) (by omega) (by simp; omega) ?_; intro v7 w7 hown7 hgrow7 hnil7; have HB7 := HB9.out.grown hgrow7 hne.out; have X7 : Ext w w7 := (((Chg.of_ext [] X).alloc _).grown hgrow7 (fun k hk => Or.inr (hrow.out k hk))).ext; have z2 := HB7.cell 2 _ rfl; have z0 := X7.cell c0'.out; have z1 := X7.cell c1'.out)
          have O7 : Own8 w7 w.heap.size v7 (D2 ++ [op]) := by
            have e : bs (D2 ++ [op]) = bs D2 ++ [.int .u8 op] := by simp [bs]
            unfold Own8
            rw [e, List.length_append]
            exact hown7
          clear hgrow7 hnil7 hown7 HB9 hrow d0 d1 hne hO HBr X p2
          refine (hha2.out _).mono ?_
          rintro e _ ⟨rfl, rfl⟩
          cases t4 with
          | false =>
            have hfin : Hid (D2 ++ [op] = H ++ encC (C.take (j + 1))) := by show _ = _; rw [hdr.out, hei.out, ← List.append_assoc, hD2.out]; rfl
            go_wp2_with fail
            go_roundw
            case rel => exact ⟨j + 1, by omega, by go_num, by rw [← hfin.out]; exact O7, HB7, X7⟩
            case measure => simp [intOf]; omega
          | true =>
            have hfin : Hid (D2 ++ [op] ++ wenc arg = H ++ encC (C.take (j + 1))) := by show _ = _; rw [hdr.out, hei.out, ← List.append_assoc, hD2.out]; simp
            have a4 : arg ≤ 9007199254740991 := by omega
            have hwa : Hid (wnum arg = arg) := wnum_id x2 a4
            have hlD3 : (D2 ++ [op]).length ≤ 900000 := by simp; omega
            have hs8 := X7.size
            go_wp2_with fail
            (with_reducible refine (hpi.out v7 (D2 ++ [op]) arg hlD3 _ (Own8.rd O7)).mono ?_)
            rw [hwa.out, hfin.out]
            rintro e w9 ⟨v9, rfl, hO9, g9⟩
            go_wp2_with fail
            go_roundw
            case rel => exact ⟨j + 1, by omega, by go_num, own_mono hO9 hs8, HB7.ext g9, X7.trans g9⟩
            case measure => simp [intOf]; omega
        · obtain rfl : j = n := by omega
          have hlC : C.take j = C := List.take_of_length_le (by rw [hn.out]; exact Nat.le_refl _)
          rw [hlC] at hO
          clear hlC
          have hp : H ++ encC C = progB A L C := by rw [← hH.out, ← hD.out]; unfold progB; rw [hm.out, hn.out]
          rw [hp] at hO
          clear hp
          go_wp2_with fail
          go_ret2
          show EncPost w (encF A L C) _ _
          rw [hE.out]
          exact ⟨_, rfl, hO, X⟩
theorem rencode_any (va vc : Value) (A : List (Bool × Int)) (L : Int) (C : List (Int × Int)) (hA : OkA A) (hC : OkI C) (hL0 : -9223372036854775808 ≤ L) (hL1 : L ≤ 9223372036854775807) (w : World) (ra : Arr w va A) (rc : Cod w vc C) :
    Calls Try.prog 15 #[.agg #[va, .int .i64 L, vc]] w (EncPost w (encF A L C)) := by
  by_cases hz : formE A L C = 0
  · exact rencode_good va vc A L C hA hC hL0 hL1 hz w ra rc
  · exact rencode_bad va vc A L C hA hC hL0 hL1 hz w ra rc
end Go.Proofs.Ytchkbidekmaaiaa
