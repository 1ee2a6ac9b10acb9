/- Package listing: operand, line. -/
import Derived.Test.YthjnchjfmbblfaaGreatDoorUzq
import Derived.Lib.AppendIntMem
namespace Go.Proofs.YthjnchjfmbblfaaGreatDoor
open Go.RowKit Go.ChangeMaps Go.MapKept
set_option linter.unusedVariables false
set_option linter.unusedSimpArgs false
attribute [local go_sem ↓] Go.wp_at_zero Go.wp_at_succ

/-- The powers of ten lie as package strconv's variable says. -/
def TabH (w : World) : Prop := Lib.TabIs Tryz.prog w "internal/strconv.uint64pow10" .u64 Lib.pow10Tab
theorem TabH.ext {w w' : World} (h : TabH w) (k : Ext w w') : TabH w' := Lib.tabBelow_of_tabIs h w' k
theorem grow_extN (w : World) (k : Nat) (os : Array Obj) : Ext w (Sort.grow (w.drewN k) os) := ⟨rfl, rfl, rfl, by simp [Sort.grow, World.drewN], fun j hj => by
  simp only [Sort.grow, World.drewN]
  rw [Array.getElem?_append_left hj]⟩
theorem itoa_nat (n : Nat) (hn : n ≤ 9223372036854775807) (w : World) (hT : TabH w) :
    Calls Tryz.prog 33 #[.int .i64 (n : Int)] w fun e w' => e = .returned (.string (ba (Lib.decDigits n))) ∧ Ext w w' := by
  refine (Tryz.strconv_Itoa (n : Int) (by omega) (by omega) w hT).mono ?_
  rintro e w' ⟨rfl, k, os, rfl⟩
  refine ⟨?_, grow_extN w k os⟩
  unfold Lib.itoa
  rw [if_neg (by omega), Int.toNat_natCast]
  rfl
theorem ba_app (k l : List UInt8) : ba k ++ ba l = ba (k ++ l) := by
  apply ByteArray.ext
  simp [ba]
/-- What stands behind the name of an operation. -/
def opdS (x : Int × Int) : List UInt8 := (Src.opdW x).flatMap fun y => 32 :: y
set_option maxHeartbeats 8000000 in
set_option maxRecDepth 100000 in
theorem operand_any (vA vC : Value) (A : List (Bool × Int)) (L : Int) (C : List (Int × Int)) (op : Int) (k : Nat) (hk : k ≤ 4294967295) (w : World) (rA : Arr w vA A) (rC : Cod w vC C) (hT : TabH w) :
    Calls Tryz.prog 36 #[.agg #[vA, .int .i64 L, vC], .agg #[.int .i64 op, .int .u32 (k : Int)]] w fun e w' => e = .returned (.tuple #[.string (ba (opdS (op, (k : Int)))), .bool (Src.opdOk A L (op, (k : Int)))]) ∧ Ext w w' := by
  obtain ⟨aA, cA', rfl, -⟩ := Rd.shape (show Rd w 2 vA A.length (A.flatMap cA) from rA)
  obtain ⟨aC, cC, rfl, -⟩ := Rd.shape (show Rd w 2 vC C.length (C.flatMap cI) from rC)
  obtain ⟨nA, hnA⟩ : ∃ n, A.length = n := ⟨_, rfl⟩
  obtain ⟨nC, hnC⟩ : ∃ n, C.length = n := ⟨_, rfl⟩
  have hA8 : Hid (nA = A.length) := hidden hnA.symm
  rw [hnA, hnC]
  have X1 : Ext w (w.alloc (.cells #[.slice aA nA cA', .int .i64 L, .slice aC nC cC] 25)) := (Ext.refl w).alloc _
  have HB1 := Blk.new w [.slice aA nA cA', .int .i64 L, .slice aC nC cC] 25
  obtain ⟨w1, hw1⟩ : ∃ w1, w.alloc (.cells #[.slice aA nA cA', .int .i64 L, .slice aC nC cC] 25) = w1 := ⟨_, rfl⟩
  obtain ⟨q, hq⟩ : ∃ q, w.heap.size = q := ⟨_, rfl⟩
  rw [hq] at HB1
  rw [hw1] at HB1 X1
  have hs1 : w1.heap.size = q + 1 := by rw [← hw1, ← hq]; simp
  have X2 : Ext w1 (w1.alloc (.cells #[.int .i64 op, .int .u32 (k : Int)] 56)) := (Ext.refl w1).alloc _
  have HB2 := Blk.new w1 [.int .i64 op, .int .u32 (k : Int)] 56
  obtain ⟨w2, hw2⟩ : ∃ w2, w1.alloc (.cells #[.int .i64 op, .int .u32 (k : Int)] 56) = w2 := ⟨_, rfl⟩
  rw [hs1] at HB2
  rw [hw2] at HB2 X2
  have HB3 := HB1.ext X2
  have c0 := HB2.cell 0 _ rfl
  have c1 := HB2.cell 1 _ rfl
  have hX := hidden (X1.trans X2)
  have hit := itoa_nat k (by omega) w2 (hT.ext (X1.trans X2))
  have hS0 : Hid (∀ l, ba l ++ ba (Lib.decDigits k) = ba (l ++ Lib.decDigits k)) := hidden (fun l => ba_app _ _)
  obtain ⟨S, hS⟩ : ∃ S, ba (Lib.decDigits k) = S := ⟨_, rfl⟩
  rw [hS] at hit hS0
  have hSs : S.size ≤ 10 := by
    rw [← hS]
    have := Src.dd_len 9 k (by omega)
    show (Lib.decDigits k).toArray.size ≤ 10
    simpa using this
  have hz1 : ¬ 9223372036854775807 < 1 + S.size := by omega
  have hz2 : ¬ 9223372036854775807 < 2 + S.size := by omega
  replace hSs := hidden hSs
  replace hit := hidden hit
  replace hS := hidden hS
  replace HB2 := hidden HB2
  replace HB3 := hidden HB3
  have v1 : IntKind.i64.wrap (k : Int) = (k : Int) := IntWalk.i64_in _ (by omega)
  clear rA rC hT X1 X2 HB1 hnA hnC
  by_cases o0 : op = 0
  · subst o0
    have hr : Hid (ba (opdS (0, (k : Int))) = ⟨#[32]⟩ ++ S ∧ Src.opdOk A L (0, (k : Int)) = true) := hidden ⟨by rw [show (⟨#[32]⟩ : ByteArray) = ba [32] from rfl, hS0.out]; simp [opdS, Src.opdW], rfl⟩
    go_enter Tryz.func36, Tryz.ntmps36
    go_wp2_with fail
    refine hit.out.mono ?_
    rintro e w3 ⟨rfl, X3⟩
    have c2 := X3.cell c0
    have c3 := X3.cell c1
    go_wp2_with fail
    refine bodyPost_ret (results_tmp2 rfl _ _ _) rfl ?_
    rw [hr.out.1, hr.out.2]
    exact ⟨rfl, hX.out.trans X3⟩
  · by_cases o35 : op = 35
    · subst o35
      have hr : Hid (ba (opdS (35, (k : Int))) = ⟨#[32]⟩ ++ S ∧ Src.opdOk A L (35, (k : Int)) = true) := hidden ⟨by rw [show (⟨#[32]⟩ : ByteArray) = ba [32] from rfl, hS0.out]; simp [opdS, Src.opdW], rfl⟩
      go_enter Tryz.func36, Tryz.ntmps36
      go_wp2_with fail
      refine hit.out.mono ?_
      rintro e w3 ⟨rfl, X3⟩
      have c2 := X3.cell c0
      have c3 := X3.cell c1
      go_wp2_with fail
      refine bodyPost_ret (results_tmp2 rfl _ _ _) rfl ?_
      rw [hr.out.1, hr.out.2]
      exact ⟨rfl, hX.out.trans X3⟩
    · by_cases o1 : op = 1
      · subst o1
        have hr : Hid (ba (opdS (1, (k : Int))) = ⟨#[32, 108]⟩ ++ S) := hidden (by rw [show (⟨#[32, 108]⟩ : ByteArray) = ba [32, 108] from rfl, hS0.out]; simp [opdS, Src.opdW, Src.lN, Src.aN])
        have hb : Hid (Src.opdOk A L (1, (k : Int)) = decide ((k : Int) < L)) := hidden (by unfold Src.opdOk; rw [if_pos (Or.inl rfl)])
        go_enter Tryz.func36, Tryz.ntmps36
        go_wp2_with fail
        refine hit.out.mono ?_
        rintro e w3 ⟨rfl, X3⟩
        have hY := hidden (hX.out.trans X3)
        have c2 := X3.cell c0
        have c3 := X3.cell c1
        have c4 := (HB3.out.ext X3).cell 1 _ rfl
        replace X3 := hidden X3
        clear c0 c1
        go_wp2_with fail
        go_quiet (fail)
        all_goals go_wp2_with fail
        refine bodyPost_ret (results_tmp2 rfl _ _ _) rfl ?_
        rw [hr.out, hb.out]
        exact ⟨by rfl, hY.out.drewN _⟩
      · by_cases o2 : op = 2
        · subst o2
          have hr : Hid (ba (opdS (2, (k : Int))) = ⟨#[32, 108]⟩ ++ S) := hidden (by rw [show (⟨#[32, 108]⟩ : ByteArray) = ba [32, 108] from rfl, hS0.out]; simp [opdS, Src.opdW, Src.lN, Src.aN])
          have hb : Hid (Src.opdOk A L (2, (k : Int)) = decide ((k : Int) < L)) := hidden (by unfold Src.opdOk; rw [if_pos (Or.inr rfl)])
          go_enter Tryz.func36, Tryz.ntmps36
          go_wp2_with fail
          refine hit.out.mono ?_
          rintro e w3 ⟨rfl, X3⟩
          have hY := hidden (hX.out.trans X3)
          have c2 := X3.cell c0
          have c3 := X3.cell c1
          have c4 := (HB3.out.ext X3).cell 1 _ rfl
          replace X3 := hidden X3
          clear c0 c1
          go_wp2_with fail
          go_quiet (fail)
          all_goals go_wp2_with fail
          refine bodyPost_ret (results_tmp2 rfl _ _ _) rfl ?_
          rw [hr.out, hb.out]
          exact ⟨by rfl, hY.out.drewN _⟩
        · by_cases o3 : op = 3
          · subst o3
            have hr : Hid (ba (opdS (3, (k : Int))) = ⟨#[32, 97]⟩ ++ S) := hidden (by rw [show (⟨#[32, 97]⟩ : ByteArray) = ba [32, 97] from rfl, hS0.out]; simp [opdS, Src.opdW, Src.lN, Src.aN])
            have hb : Hid (Src.opdOk A L (3, (k : Int)) = decide (k < nA)) := hidden (by rw [hA8.out]; unfold Src.opdOk; rw [if_neg (by simp), if_pos (Or.inl rfl)]; exact decide_eq_decide.2 (by omega))
            go_enter Tryz.func36, Tryz.ntmps36
            go_wp2_with fail
            refine hit.out.mono ?_
            rintro e w3 ⟨rfl, X3⟩
            have hY := hidden (hX.out.trans X3)
            have c2 := X3.cell c0
            have c3 := X3.cell c1
            have c4 := (HB3.out.ext X3).cell 0 _ rfl
            replace X3 := hidden X3
            clear c0 c1
            go_wp2_with fail
            go_quiet (fail)
            all_goals go_wp2_with fail
            refine bodyPost_ret (results_tmp2 rfl _ _ _) rfl ?_
            rw [hr.out, hb.out]
            exact ⟨by rfl, hY.out.drewN _⟩
          · by_cases o4 : op = 4
            · subst o4
              have hr : Hid (ba (opdS (4, (k : Int))) = ⟨#[32, 97]⟩ ++ S) := hidden (by rw [show (⟨#[32, 97]⟩ : ByteArray) = ba [32, 97] from rfl, hS0.out]; simp [opdS, Src.opdW, Src.lN, Src.aN])
              have hb : Hid (Src.opdOk A L (4, (k : Int)) = decide (k < nA)) := hidden (by rw [hA8.out]; unfold Src.opdOk; rw [if_neg (by simp), if_pos (Or.inr rfl)]; exact decide_eq_decide.2 (by omega))
              go_enter Tryz.func36, Tryz.ntmps36
              go_wp2_with fail
              refine hit.out.mono ?_
              rintro e w3 ⟨rfl, X3⟩
              have hY := hidden (hX.out.trans X3)
              have c2 := X3.cell c0
              have c3 := X3.cell c1
              have c4 := (HB3.out.ext X3).cell 0 _ rfl
              replace X3 := hidden X3
              clear c0 c1
              go_wp2_with fail
              go_quiet (fail)
              all_goals go_wp2_with fail
              refine bodyPost_ret (results_tmp2 rfl _ _ _) rfl ?_
              rw [hr.out, hb.out]
              exact ⟨by rfl, hY.out.drewN _⟩
            · have q0 : (op == 0) = false := by simpa using o0
              have q35 : (op == 35) = false := by simpa using o35
              have q1 : (op == 1) = false := by simpa using o1
              have q2 : (op == 2) = false := by simpa using o2
              have q3 : (op == 3) = false := by simpa using o3
              have q4 : (op == 4) = false := by simpa using o4
              have hr : Hid (ba (opdS (op, (k : Int))) = ⟨#[]⟩ ∧ Src.opdOk A L (op, (k : Int)) = true) := hidden (by simp [opdS, Src.opdW, Src.opdOk, o0, o35, o1, o2, o3, o4, ba])
              clear o0 o35 o1 o2 o3 o4
              go_enter Tryz.func36, Tryz.ntmps36
              go_wp2_with fail
              refine hit.out.mono ?_
              rintro e w3 ⟨rfl, X3⟩
              have c2 := X3.cell c0
              have c3 := X3.cell c1
              go_wp2_with fail
              refine bodyPost_ret (results_tmp2 rfl _ _ _) rfl ?_
              rw [hr.out.1, hr.out.2]
              exact ⟨rfl, hX.out.trans X3⟩
end Go.Proofs.YthjnchjfmbblfaaGreatDoor

/- Package listing: line, indenter. -/
namespace Go.Proofs.YthjnchjfmbblfaaGreatDoor
open Go.RowKit Go.ChangeMaps Go.MapKept
set_option linter.unusedVariables false
set_option linter.unusedSimpArgs false
attribute [local go_sem ↓] Go.wp_at_zero Go.wp_at_succ

theorem opdS_len (op : Int) (k : Nat) (hk : k ≤ 4294967295) : (opdS (op, (k : Int))).length ≤ 12 := by
  have := Src.dd_len 9 k (by omega)
  unfold opdS Src.opdW
  simp only [Int.toNat_natCast]
  repeat' split
  all_goals simp [Src.lN, Src.aN]
  all_goals omega
theorem opn_tab : (List.range 36).all (fun j => decide ((opAt (j : Int)).1.size ≤ 20)) = true := by decide +kernel
theorem opn_len {j : Nat} (h : j < 36) : (opAt (j : Int)).1.size ≤ 20 := of_decide_eq_true (List.all_eq_true.1 opn_tab j (List.mem_range.2 h))
set_option maxHeartbeats 8000000 in
set_option maxRecDepth 100000 in
theorem line_any (vA vC : Value) (A : List (Bool × Int)) (L : Int) (C : List (Int × Int)) (j k : Nat) (hj : j < 36) (hk : k ≤ 4294967295) (w : World) (rA : Arr w vA A) (rC : Cod w vC C) (hT : TabH w) :
    Calls Tryz.prog 16 #[.agg #[vA, .int .i64 L, vC], .agg #[.int .i64 (j : Int), .int .u32 (k : Int)]] w fun e w' => e = .returned (.tuple #[.string (ba (Src.opn (j : Int) ++ opdS ((j : Int), (k : Int)))), .bool (Src.opdOk A L ((j : Int), (k : Int)))]) ∧ Ext w w' := by
  have hop := fun W (hW : Ext w W) => operand_any vA vC A L C (j : Int) k hk W (Rd.ext rA hW) (Rd.ext rC hW) (hT.ext hW)
  obtain ⟨aA, cA', rfl, -⟩ := Rd.shape (show Rd w 2 vA A.length (A.flatMap cA) from rA)
  obtain ⟨aC, cC, rfl, -⟩ := Rd.shape (show Rd w 2 vC C.length (C.flatMap cI) from rC)
  obtain ⟨nA, hnA⟩ : ∃ n, A.length = n := ⟨_, rfl⟩
  obtain ⟨nC, hnC⟩ : ∃ n, C.length = n := ⟨_, rfl⟩
  rw [hnA, hnC]
  simp only [hnA, hnC] at hop
  have X1 : Ext w (w.alloc (.cells #[.slice aA nA cA', .int .i64 L, .slice aC nC cC] 25)) := (Ext.refl w).alloc _
  have HB1 := Blk.new w [.slice aA nA cA', .int .i64 L, .slice aC nC cC] 25
  obtain ⟨w1, hw1⟩ : ∃ w1, w.alloc (.cells #[.slice aA nA cA', .int .i64 L, .slice aC nC cC] 25) = w1 := ⟨_, rfl⟩
  obtain ⟨q, hq⟩ : ∃ q, w.heap.size = q := ⟨_, rfl⟩
  rw [hq] at HB1
  rw [hw1] at HB1 X1
  have hs1 : w1.heap.size = q + 1 := by rw [← hw1, ← hq]; simp
  have X2 : Ext w1 (w1.alloc (.cells #[.int .i64 (j : Int), .int .u32 (k : Int)] 56)) := (Ext.refl w1).alloc _
  have HB2 := Blk.new w1 [.int .i64 (j : Int), .int .u32 (k : Int)] 56
  obtain ⟨w2, hw2⟩ : ∃ w2, w1.alloc (.cells #[.int .i64 (j : Int), .int .u32 (k : Int)] 56) = w2 := ⟨_, rfl⟩
  rw [hs1] at HB2
  rw [hw2] at HB2 X2
  have HB3 := HB1.ext X2
  have c0 := HB2.cell 0 _ rfl
  have c1 := HB2.cell 1 _ rfl
  have e0 := HB3.cell 0 _ rfl
  have e1 := HB3.cell 1 _ rfl
  have e2 := HB3.cell 2 _ rfl
  have hX := hidden (X1.trans X2)
  have hop2 := hop w2 (X1.trans X2)
  have hnm := iname_any (j : Int)
  have hlen := opdS_len (j : Int) k hk
  have hlen2 := opn_len hj
  have hS0 : Hid (∀ N, N = (opAt (j : Int)).1 → N ++ ba (opdS ((j : Int), (k : Int))) = ba (Src.opn (j : Int) ++ opdS ((j : Int), (k : Int)))) := hidden (fun N hN => by
    subst hN
    rw [← ba_app]
    rfl)
  obtain ⟨S, hS⟩ : ∃ S, ba (opdS ((j : Int), (k : Int))) = S := ⟨_, rfl⟩
  obtain ⟨N, hN⟩ : ∃ N, (opAt (j : Int)).1 = N := ⟨_, rfl⟩
  have hsz : S.size ≤ 12 := by rw [← hS]; show (opdS ((j : Int), (k : Int))).toArray.size ≤ 12; simpa using hlen
  rw [hN] at hlen2 hnm
  rw [hS] at hop2 hS0
  have hfin := hS0.out N hN.symm
  rw [← hfin]
  have hz1 : ¬ 9223372036854775807 < N.size + S.size := by omega
  replace hop2 := hidden hop2
  replace hnm := hidden hnm
  replace HB2 := hidden HB2
  replace HB3 := hidden HB3
  replace hsz := hidden hsz
  replace hlen2 := hidden hlen2
  clear rA rC hT X1 X2 HB1 hnA hnC hop hfin hS0 hS hN hlen
  go_enter Tryz.func16, Tryz.ntmps16
  go_wp2_with fail
  refine hop2.out.mono ?_
  rintro e w3 ⟨rfl, X3⟩
  have d0 := X3.cell c0
  have d1 := X3.cell c1
  have hX3 := hidden (hX.out.trans X3)
  clear e0 e1 e2 c0 c1 X3
  go_wp2_with fail
  refine (hnm.out _).mono ?_
  rintro e w4 ⟨rfl, X4⟩
  go_wp2_with fail
  refine bodyPost_ret (results_tmp2 rfl _ _ _) rfl ?_
  exact ⟨rfl, hX3.out.trans X4⟩
theorem rep_two : ∀ c : Nat, Lib.repeatL [32, 32] c = List.replicate (2 * c) 32
  | 0 => rfl
  | c + 1 => by
    rw [Lib.repeatL, rep_two c, show 2 * (c + 1) = 2 * c + 1 + 1 by omega, List.replicate_succ, List.replicate_succ]
    rfl
theorem repeat_two (c : Nat) (hc : c ≤ 100000) (w : World) :
    Calls Tryz.prog 35 #[.string ⟨#[32, 32]⟩, .int .i64 (c : Int)] w fun e w' => e = .returned (.string (ba (List.replicate (2 * c) 32))) ∧ Ext w w' := by
  refine (Tryz.strings_Repeat ⟨#[32, 32]⟩ c w (by omega) (by show 2 * c ≤ _; omega)).mono ?_
  rintro e w' ⟨rfl, h⟩
  refine ⟨?_, h⟩
  rw [show (⟨#[32, 32]⟩ : ByteArray).data.toList = [32, 32] from rfl, rep_two]
  rfl
set_option maxHeartbeats 8000000 in
set_option maxRecDepth 100000 in
theorem indent_any (d dp : Nat) (op : Int) (hd : d ≤ 10000) (w : World) (hB : Blk w dp 3 [.int .i64 (d : Int)]) :
    Calls Tryz.prog 34 #[.int .i64 op, .pointer (some ⟨dp, 0, none⟩)] w fun e w' => e = .returned (.string (ba (List.replicate (2 * (Src.indF d op).1) 32))) ∧ Blk w' dp 3 [.int .i64 ((Src.indF d op).2 : Int)] ∧ Chg [dp] w w' := by
  have hrep := repeat_two
  replace hrep := hidden hrep
  by_cases o28 : op = 28
  · subst o28
    rw [show Src.indF d 28 = (d - 1, d) from rfl]
    simp only
    cases d with
    | zero =>
      have c0 := hB.cell 0 _ rfl
      have f0 := hB.frozen 0
      have hr := hrep.out 0 (by omega)
      replace hr := hidden hr
      replace hB := hidden hB
      clear hrep
      go_enter Tryz.func34, Tryz.ntmps34
      go_wp2_with fail
      refine (hr.out _).mono ?_
      rintro e w3 ⟨rfl, X3⟩
      go_wp2_with fail
      go_ret
      exact ⟨rfl, hB.out.ext X3, (Chg.refl [dp] w).trans (Chg.of_ext [] X3) (by simp)⟩
    | succ c =>
      have e1 : (((c + 1 : Nat)) : Int) = (c : Int) + 1 := by omega
      rw [e1] at hB
      have v1 : IntKind.i64.wrap (c : Int) = (c : Int) := IntWalk.i64_in _ (by omega)
      have v2 : IntKind.i64.wrap ((c : Int) + 1 - 1) = (c : Int) := by rw [IntWalk.i64_in _ (by omega)]; omega
      rw [Nat.add_sub_cancel]
      show Calls _ _ _ _ (fun e w' => _ ∧ Blk w' dp _ [.int .i64 (((c + 1 : Nat)) : Int)] ∧ _)
      rw [e1]
      by_cases h0c : c = 0
      · subst h0c
        have c0 := hB.cell 0 _ rfl
        have f0 := hB.frozen 0
        have hr := hrep.out 0 (by omega)
        replace hr := hidden hr
        replace hB := hidden hB
        clear hrep
        go_enter Tryz.func34, Tryz.ntmps34
        go_wp2_with fail
        refine (hr.out _).mono ?_
        rintro e w3 ⟨rfl, X3⟩
        go_wp2_with fail
        go_ret
        exact ⟨rfl, hB.out.ext X3, (Chg.refl [dp] w).trans (Chg.of_ext [] X3) (by simp)⟩
      · have h0 : (0 : Int) < (c : Int) := by omega
        have h0' : 0 < c := by omega
        have c0 := hB.cell 0 _ rfl
        have f0 := hB.frozen 0
        have hr := hrep.out c (by omega)
        replace hr := hidden hr
        replace hB := hidden hB
        clear hrep
        go_enter Tryz.func34, Tryz.ntmps34
        go_wp2_with fail
        refine (hr.out _).mono ?_
        rintro e w3 ⟨rfl, X3⟩
        go_wp2_with fail
        go_ret
        exact ⟨rfl, hB.out.ext X3, (Chg.refl [dp] w).trans (Chg.of_ext [] X3) (by simp)⟩
  · have n28 : (op == 28) = false := by simpa using o28
    by_cases o31 : op = 31
    · subst o31
      rw [show Src.indF d 31 = (d - 1, d - 1) from rfl]
      simp only
      cases d with
      | zero =>
        have c0 := hB.cell 0 _ rfl
        have f0 := hB.frozen 0
        have hr := hrep.out 0 (by omega)
        replace hr := hidden hr
        replace hB := hidden hB
        clear hrep
        go_enter Tryz.func34, Tryz.ntmps34
        go_wp2_with fail
        refine (hr.out _).mono ?_
        rintro e w3 ⟨rfl, X3⟩
        go_wp2_with fail
        go_ret
        exact ⟨rfl, (hB.out.set 0 (.int .i64 0)).ext X3, ((Chg.refl [dp] w).setCell (p := ⟨dp, 0, none⟩) (Or.inl (by simp)) (.int .i64 0)).trans (Chg.of_ext [] X3) (by simp)⟩
      | succ c =>
        have e1 : (((c + 1 : Nat)) : Int) = (c : Int) + 1 := by omega
        rw [e1] at hB
        have v1 : IntKind.i64.wrap (c : Int) = (c : Int) := IntWalk.i64_in _ (by omega)
        have v2 : IntKind.i64.wrap ((c : Int) + 1 - 1) = (c : Int) := by rw [IntWalk.i64_in _ (by omega)]; omega
        rw [Nat.add_sub_cancel]
        by_cases h0c : c = 0
        · subst h0c
          have c0 := hB.cell 0 _ rfl
          have f0 := hB.frozen 0
          have hr := hrep.out 0 (by omega)
          replace hr := hidden hr
          replace hB := hidden hB
          clear hrep
          go_enter Tryz.func34, Tryz.ntmps34
          go_wp2_with fail
          refine (hr.out _).mono ?_
          rintro e w3 ⟨rfl, X3⟩
          go_wp2_with fail
          go_ret
          exact ⟨rfl, (hB.out.set 0 (.int .i64 0)).ext X3, ((Chg.refl [dp] w).setCell (p := ⟨dp, 0, none⟩) (Or.inl (by simp)) (.int .i64 0)).trans (Chg.of_ext [] X3) (by simp)⟩
        · have h0 : (0 : Int) < (c : Int) := by omega
          have h0' : 0 < c := by omega
          have c0 := hB.cell 0 _ rfl
          have f0 := hB.frozen 0
          have hr := hrep.out c (by omega)
          replace hr := hidden hr
          replace hB := hidden hB
          clear hrep
          go_enter Tryz.func34, Tryz.ntmps34
          go_wp2_with fail
          refine (hr.out _).mono ?_
          rintro e w3 ⟨rfl, X3⟩
          go_wp2_with fail
          go_ret
          exact ⟨rfl, (hB.out.set 0 (.int .i64 (c : Int))).ext X3, ((Chg.refl [dp] w).setCell (p := ⟨dp, 0, none⟩) (Or.inl (by simp)) (.int .i64 (c : Int))).trans (Chg.of_ext [] X3) (by simp)⟩
    · have n31 : (op == 31) = false := by simpa using o31
      have v1 : IntKind.i64.wrap ((d : Int) + 1) = (d : Int) + 1 := IntWalk.i64_in _ (by omega)
      have v2 : IntKind.i64.wrap (d : Int) = (d : Int) := IntWalk.i64_in _ (by omega)
      have v3 : IntKind.i64.wrap ((d : Int) + 1 - 1) = (d : Int) := by rw [IntWalk.i64_in _ (by omega)]; omega
      by_cases o27 : op = 27 ∨ op = 29
      · have hif : Src.indF d op = (d, d + 1) := by unfold Src.indF; rw [if_neg o28, if_neg o31, if_pos o27]
        rw [hif]
        simp only
        rw [show (((d + 1 : Nat)) : Int) = (d : Int) + 1 by omega]
        clear hif o28 o31 n28 n31
        rcases o27 with rfl | rfl
        all_goals
          have c0 := hB.cell 0 _ rfl
          have f0 := hB.frozen 0
          have hr := hrep.out d (by omega)
          replace hr := hidden hr
          replace hB := hidden hB
          clear hrep
          go_enter Tryz.func34, Tryz.ntmps34
          go_wp2_with fail
          refine (hr.out _).mono ?_
          rintro e w3 ⟨rfl, X3⟩
          go_wp2_with fail
          go_ret
          exact ⟨rfl, (hB.out.set 0 (.int .i64 ((d : Int) + 1))).ext X3, ((Chg.refl [dp] w).setCell (p := ⟨dp, 0, none⟩) (Or.inl (by simp)) (.int .i64 ((d : Int) + 1))).trans (Chg.of_ext [] X3) (by simp)⟩
      · have hif : Src.indF d op = (d, d) := by unfold Src.indF; rw [if_neg o28, if_neg o31, if_neg o27]
        have n27 : (op == 27) = false := by simp; intro h; exact o27 (Or.inl h)
        have n29 : (op == 29) = false := by simp; intro h; exact o27 (Or.inr h)
        rw [hif]
        simp only
        clear hif o28 o31 o27
        have c0 := hB.cell 0 _ rfl
        have f0 := hB.frozen 0
        have hr := hrep.out d (by omega)
        replace hr := hidden hr
        replace hB := hidden hB
        clear hrep
        go_enter Tryz.func34, Tryz.ntmps34
        go_wp2_with fail
        refine (hr.out _).mono ?_
        rintro e w3 ⟨rfl, X3⟩
        go_wp2_with fail
        go_ret
        exact ⟨rfl, hB.out.ext X3, (Chg.refl [dp] w).trans (Chg.of_ext [] X3) (by simp)⟩
end Go.Proofs.YthjnchjfmbblfaaGreatDoor
