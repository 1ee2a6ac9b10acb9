/- listing.Print. -/
import Derived.Test.YthjnchjfmbblfaaGreatDoorUzt
namespace Go.Proofs.YthjnchjfmbblfaaGreatDoor
open Go.RowKit Go.ChangeMaps Go.MapKept
set_option linter.unusedVariables false
set_option linter.unusedSimpArgs false
attribute [local go_sem ↓] Go.wp_at_zero Go.wp_at_succ

theorem add_run2 (a b c : List UInt8) (h : c = a ++ b) (hs : c.length ≤ 1000000) (w : World) : (Op.stringOp .add (ba a) (ba b)).run Tryz.prog w = .ok (.string (ba c)) w := by
  subst h
  rw [List.length_append] at hs
  rw [run_string_add_sum w _ _ (by show a.toArray.size + b.toArray.size ≤ _; simp; omega), ba_app]
theorem join_lines (U : List (List UInt8)) : Lib.join (U ++ [[]]) [10] = U.flatMap (· ++ [10]) := by
  induction U with
  | nil => rfl
  | cons x U ih =>
    unfold Lib.join at ih ⊢
    cases U with
    | nil => simp [List.intercalate]
    | cons y U =>
      rw [List.flatMap_cons, ← ih]
      simp [List.intercalate]
theorem text_flat (A : List (Bool × Int)) (L : Int) (C : List (Int × Int)) : ((Src.progL A L C).map lnL).flatMap (· ++ [10]) = Src.textP A L C := by
  unfold Src.textP Src.textB
  rw [List.flatMap_map]
  rfl
/-- The lines of code up to a place, and the depth there. -/
theorem ind_le (d : Nat) (op : Int) : (Src.indF d op).1 ≤ d ∧ (Src.indF d op).2 ≤ d + 1 := by
  unfold Src.indF
  repeat' split
  all_goals simp only
  all_goals omega
theorem code_line (m : Nat) (x : Int × Int) : lnL (m, Src.opn x.1, Src.opdW x) = List.replicate m 32 ++ (Src.opn x.1 ++ opdS x) := rfl
theorem locL_len : ∀ n s, (Src.locL s n).length = n := by
  intro n
  induction n with
  | zero => intro s; rfl
  | succ n ih => intro s; simp [Src.locL, ih]
theorem indenter_any (w : World) : Calls Tryz.prog 15 #[] w fun e w' => e = .returned (.func (.func 34) #[] #[.pointer (some ⟨w.heap.size, 0, none⟩)]) ∧ w.alloc (.cells #[.int .i64 0] 3) = w' := by
  go_enter Tryz.func15, Tryz.ntmps15
  go_wp2_with fail
  go_ret
  exact ⟨rfl, rfl⟩
theorem own_some8 {w : World} {base n : Nat} {e : TypeId} {v : Value} {xs : List Value} (h : w.ownsRow base e 1 v n xs) (hn : 0 < n) : ∃ g cap, v = .slice (some ⟨g, 0, none⟩) n cap ∧ n ≤ cap := by
  rcases h.2 with ⟨h1, h2⟩ | ⟨g, cap, cur, rfl, hb, hg, h1, _⟩
  · omega
  · exact ⟨g, cap, rfl, h1⟩
theorem flat_bound (U : List (List UInt8)) (h : ∀ l ∈ U, l.length ≤ 3000) : (U.flatMap (· ++ [10])).length ≤ U.length * 3001 := by
  induction U with
  | nil => exact Nat.zero_le _
  | cons x U ih =>
    have h1 := ih (fun l hl => h l (List.mem_cons_of_mem _ hl))
    have h2 := h x List.mem_cons_self
    rw [List.flatMap_cons, List.length_append, List.length_append, List.length_cons]
    simp only [List.length_cons, List.length_nil]
    omega
/-- What Print says. -/
def PrintR (A : List (Bool × Int)) (L : Int) (C : List (Int × Int)) (w : World) (x : Ending) (w' : World) : Prop :=
  x = .returned (.tuple #[.string (ba (Src.printF A L C).1), .int .i64 (Src.printF A L C).2]) ∧ Ext w w'
set_option maxHeartbeats 16000000 in
set_option maxRecDepth 100000 in
theorem print_any (vA vC : Value) (A : List (Bool × Int)) (L : Int) (C : List (Int × Int)) (hA : OkA A) (hC : OkI C) (hL0 : -9223372036854775808 ≤ L) (hL1 : L ≤ 9223372036854775807) (w : World) (rA : Arr w vA A) (rC : Cod w vC C) (hT : TabH w) :
    Calls Tryz.prog 7 #[.agg #[vA, .int .i64 L, vC]] w (PrintR A L C w) := by
  have henc := fun W (hW : Ext w W) => iencode_any vA vC A L C hA hC hL0 hL1 W (Rd.ext rA hW) (Rd.ext rC hW)
  have hdec := fun (hz : formE A L C = 0) W (hW : Ext w W) => declarations_any vA vC A L.toNat C (form_ok hz).1 (form_ok hz).2.1 (by have := (form_ok hz).2.2.2.1; omega) W (Rd.ext rA hW) (Rd.ext rC hW) (hT.ext hW)
  have hlin := fun (j k : Nat) (hj : j < 36) (hk : k ≤ 4294967295) W (hW : Ext w W) => line_any vA vC A L C j k hj hk W (Rd.ext rA hW) (Rd.ext rC hW) (hT.ext hW)
  obtain ⟨aA, cA', rfl, -⟩ := Rd.shape (show Rd w 2 vA A.length (A.flatMap cA) from rA)
  obtain ⟨aC, cC, rfl, -⟩ := Rd.shape (show Rd w 2 vC C.length (C.flatMap cI) from rC)
  have hRC : Rd w 2 (.slice aC C.length cC) C.length (C.flatMap cI) := rC
  obtain ⟨nA, hnA⟩ : ∃ n, A.length = n := ⟨_, rfl⟩
  obtain ⟨nC, hnC⟩ : ∃ n, C.length = n := ⟨_, rfl⟩
  have hnC' := hidden hnC
  rw [hnC] at hRC
  rw [hnA, hnC]
  simp only [hnA, hnC] at henc hdec hlin
  have X1 : Ext w (w.alloc (.cells #[.slice aA nA cA', .int .i64 L, .slice aC nC cC] 25)) := (Ext.refl w).alloc _
  have HB1 := Blk.new w [.slice aA nA cA', .int .i64 L, .slice aC nC cC] 25
  obtain ⟨w1, hw1⟩ : ∃ w1, w.alloc (.cells #[.slice aA nA cA', .int .i64 L, .slice aC nC cC] 25) = w1 := ⟨_, rfl⟩
  obtain ⟨q, hq⟩ : ∃ q, w.heap.size = q := ⟨_, rfl⟩
  rw [hq] at HB1
  rw [hw1] at HB1 X1
  have hs1 : w1.heap.size = q + 1 := by rw [← hw1, ← hq]; simp
  have c0 := HB1.cell 0 _ rfl
  have c1 := HB1.cell 1 _ rfl
  have c2 := HB1.cell 2 _ rfl
  have he1 := henc w1 X1
  have X1' := hidden X1
  have HB1' := hidden HB1
  replace hRC := hidden hRC
  by_cases hz : formE A L C = 0
  · have hef : encF A L C = (0, progB A L C) := by unfold encF; rw [if_neg (by rw [hz]; decide)]
    rw [hef] at he1
    have hde := hdec hz
    obtain ⟨f1, f2, f3, f4, f5, f6, -⟩ := form_ok hz
    have hcI : Hid (∀ j, j < nC → ∃ (x : Int × Int) (o k : Nat), C[j]? = some x ∧ x = ((o : Int), (k : Int)) ∧ o < 36 ∧ k ≤ 4294967295) := hidden (fun j hj => by
      have hjC : j < C.length := by omega
      have hm : C[j] ∈ C := List.getElem_mem hjC
      obtain ⟨o, ho, ho36⟩ := Src.isop_of (codE_ok C f6 _ hm)
      obtain ⟨-, k0, k1⟩ := hC _ hm
      obtain ⟨k, hk⟩ := Int.eq_ofNat_of_zero_le k0
      exact ⟨C[j], o, k, List.getElem?_eq_getElem hjC, Prod.ext ho hk, ho36, by omega⟩)
    have hpF : Hid (Src.printF A L C = if C.all (Src.opdOk A L) = false then ([], 7) else if 8192 < (Src.textP A L C).length then ([], 5) else (Src.textP A L C, 0)) := hidden (by unfold Src.printF; rw [if_neg (by rw [hz]; decide)])
    have hnC4 : nC ≤ 1024 := by rw [← hnC]; exact f5
    have hnA8 : nA ≤ 8 := by rw [← hnA]; exact f1
    have hLn : Hid (((L.toNat : Nat) : Int) = L) := hidden (by omega)
    have hLn16 : L.toNat ≤ 16 := by omega
    obtain ⟨D, hD⟩ : ∃ D, (Src.arrL 0 A ++ Src.locL 0 L.toNat).map lnL = D := ⟨_, rfl⟩
    have hDlen : D.length ≤ 24 := by rw [← hD, List.length_map, List.length_append, arrL_len, hnA, locL_len]; omega
    have hDl : Hid (∀ l ∈ D, l.length ≤ 3000) := hidden (by
      intro l hl
      rw [← hD] at hl
      obtain ⟨x, hx, rfl⟩ := List.mem_map.1 hl
      rcases List.mem_append.1 hx with hx | hx
      · obtain ⟨i, hi, hix⟩ := List.mem_iff_getElem.1 hx
        rw [arrL_len] at hi
        have h1 := arrL_at A 0 i (A[i]) (List.getElem?_eq_getElem hi)
        rw [List.getElem?_eq_getElem (by rw [arrL_len]; exact hi), Option.some.injEq] at h1
        rw [← hix, h1, Nat.zero_add, arr_line]
        obtain ⟨s0, s1⟩ := f2 _ (List.getElem_mem hi)
        have g1 := Src.dd_len 9 i (by omega)
        have g2 := Src.dd_len 9 (A[i]).2.toNat (by omega)
        have g3 := kind_len (A[i]).1
        simp only [arrLn, List.length_append, g3, List.length_cons, List.length_nil]
        omega
      · have key : ∀ n, n ≤ 100 → ∀ x ∈ Src.locL 0 n, (lnL x).length ≤ 3000 := by
          intro n
          induction n with
          | zero => intro _ x hx; cases hx
          | succ n ih =>
            intro hn x hx
            rw [locL_snoc, Nat.zero_add] at hx
            rcases List.mem_append.1 hx with hx | hx
            · exact ih (by omega) x hx
            · simp only [List.mem_singleton] at hx
              subst hx
              have g1 := Src.dd_len 9 n (by omega)
              simp only [lnL, Src.lineB, Src.lN, Src.dLocal, List.replicate_zero, List.nil_append, List.length_append, List.length_cons, List.length_nil, List.flatMap_cons, List.flatMap_nil, List.append_nil]
              omega
        exact key _ (by omega) x hx)
    have hprog : Hid (Src.progL A L C = Src.arrL 0 A ++ (Src.locL 0 L.toNat ++ Src.codeL 0 C)) := hidden rfl
    have hDp : Hid (D ++ (Src.codeL 0 C).map lnL = (Src.progL A L C).map lnL) := hidden (by rw [← hD, hprog.out, ← List.append_assoc]; simp only [List.map_append])
    simp only [hD] at hde
    simp only [hLn.out] at hde
    replace hde := hidden hde
    replace hlin := hidden hlin
    replace he1 := hidden he1
    obtain ⟨i0, ii, iz0, iz1, iz2⟩ := info_parts str_info
    clear henc hdec rA rC hT X1 hnA hnC hA hC hef hz f1 f2 f3 f4 f5 f6 hD HB1 hprog
    go_enter Tryz.func7, Tryz.ntmps7
    go_wp2_with fail
    refine he1.out.mono ?_
    rintro x w2 ⟨vb, rfl, -, X2⟩
    have Y2 := X1'.out.trans X2
    have HB2 := HB1'.out.ext X2
    have d0 := HB2.cell 0 _ rfl
    have d1 := HB2.cell 1 _ rfl
    have d2 := HB2.cell 2 _ rfl
    have hdc := hidden (hde.out w2 Y2)
    have hX2 := hidden X2
    clear c0 c1 c2 HB2 X2 Y2 he1
    go_wp2_with fail
    refine hdc.out.mono ?_
    rintro x w3 ⟨v3, rfl, hO3, X3⟩
    have hX3 := hidden (hX2.out.trans X3)
    have hO3' : Hid (w3.ownsRow w2.heap.size 9 1 v3 D.length (D.map sv)) := hidden hO3
    have hb2 : q + 1 ≤ w2.heap.size := by have := hX2.out.size; omega
    have HB3 := HB1'.out.ext hX3.out
    have HI4 := Blk.new w3 [.int .i64 0] 3
    have X4 : Ext w3 (w3.alloc (.cells #[.int .i64 0] 3)) := (Ext.refl w3).alloc _
    obtain ⟨dp, hdp⟩ : ∃ q, w3.heap.size = q := ⟨_, rfl⟩
    have e0 := HB3.cell 0 _ rfl
    have e1 := HB3.cell 1 _ rfl
    have e2 := HB3.cell 2 _ rfl
    clear X3 hO3 hdc d0 d1 d2 HB3 hde
    go_wp2_with fail
    refine (indenter_any w3).mono ?_
    rintro x w4 ⟨rfl, hw4⟩
    rw [hw4] at HI4 X4
    rw [hdp] at HI4 ⊢
    have hX4 : Hid (Ext w1 w4) := hidden (hX3.out.trans X4)
    have hO4 : Hid (w4.ownsRow (q + 1) 9 1 v3 D.length (D.map sv)) := hidden (own_mono (own_ext hO3'.out X4) hb2)
    have hcod0 : Hid (D ++ (Src.codeL 0 (C.drop 0)).map lnL = (Src.progL A L C).map lnL) := hidden (by rw [List.drop_zero]; exact hDp.out)
    have f2 := X4.cell e2
    have hI4 := hidden HI4
    have hdpq : q + 1 ≤ dp := by have := hX3.out.size; omega
    clear X4 HI4 e0 e1 e2 hw4 hO3' hX2 hX3
    go_wp2_with fail
    go_loopw [6, 27] (fun u i wr => ∃ (j : Nat) (U : List (List UInt8)) (d : Nat), j ≤ nC ∧ i = .int .i64 (j : Int) ∧ d ≤ j ∧ (∃ v, u = v ∧ Hid (U ++ (Src.codeL d (C.drop j)).map lnL = (Src.progL A L C).map lnL) ∧ Hid (wr.ownsRow (q + 1) 9 1 v U.length (U.map sv)) ∧ Hid (Ext w1 wr) ∧ Hid (Blk wr dp 3 [.int .i64 (d : Int)]) ∧ U.length ≤ 24 + j) ∧ Hid (∀ x ∈ C.take j, Src.opdOk A L x = true) ∧ Hid (∀ l ∈ U, l.length ≤ 3000)) (fun _ i _ => nC - (intOf i).toNat)
    case atStart => exact ⟨0, D, 0, by omega, rfl, Nat.le_refl _, ⟨_, rfl, hcod0, hO4, hX4, hI4, by omega⟩, (by intro x hx; simp at hx), hDl⟩
    case round =>
      obtain ⟨j, U, d, hj, rfl, hdj, ⟨v, hv, hcod, hO, hX, hI, hlu⟩, hok, hlns⟩ := hrel
      have hv' := hv.symm
      subst hv'
      obtain ⟨nu, hnu⟩ : ∃ n, U.length = n := ⟨_, rfl⟩
      have hO' := hO.out
      rw [hnu] at hO' hlu
      obtain ⟨au, cu, rfl, -⟩ := own_shape hO'
      by_cases hlt : j < nC
      · obtain ⟨x, o, k, hx, hxe, ho36, hk32⟩ := hcI.out j hlt
        obtain ⟨b, off, rfl, -, -⟩ := hRC.out.cells (by omega)
        obtain ⟨y0, y1⟩ := rd2_at cI_len hRC.out j x hx _ _ rfl
        subst hxe
        simp only at y0 y1
        have z0 := (X1'.out.trans hX.out).cell y0
        have z1 := (X1'.out.trans hX.out).cell y1
        have X4 : Ext wr (wr.alloc (.cells #[.int .i64 (o : Int), .int .u32 (k : Int)] 56)) := (Ext.refl wr).alloc _
        have HB4 := Blk.new wr [.int .i64 (o : Int), .int .u32 (k : Int)] 56
        obtain ⟨w5, hw5⟩ : ∃ w5, wr.alloc (.cells #[.int .i64 (o : Int), .int .u32 (k : Int)] 56) = w5 := ⟨_, rfl⟩
        obtain ⟨q5, hq5⟩ : ∃ q, wr.heap.size = q := ⟨_, rfl⟩
        rw [hq5] at HB4
        rw [hw5] at HB4 X4
        have HQ5 := HB1'.out.ext (hX.out.trans X4)
        have g0 := HQ5.cell 0 _ rfl
        have g1 := HQ5.cell 1 _ rfl
        have g2 := HQ5.cell 2 _ rfl
        have d0 := HB4.cell 0 _ rfl
        have d1 := HB4.cell 1 _ rfl
        have hl := hlin.out o k ho36 hk32 w5 (X1'.out.trans (hX.out.trans X4))
        have hlt2 : (j : Int) < (nC : Int) := by omega
        have v2 : IntKind.i64.wrap ((j : Int) + 1) = (j : Int) + 1 := IntWalk.i64_in _ (by omega)
        have HB4' := hidden HB4
        have HD5 := hidden (hI.out.ext X4)
        have hO5 := hidden (own_ext hO' X4)
        have hX5 := hidden (hX.out.trans X4)
        obtain ⟨bo, hbo⟩ : ∃ b, Src.opdOk A L ((o : Int), (k : Int)) = b := ⟨_, rfl⟩
        rw [hbo] at hl
        have hxm : ((o : Int), (k : Int)) ∈ C := List.mem_of_getElem? hx
        cases bo with
        | false =>
          have hp7 : Hid (Src.printF A L C = ([], 7)) := hidden (by rw [hpF.out, if_pos (List.all_eq_false.2 ⟨_, hxm, by rw [hbo]; decide⟩)])
          replace hl := hidden hl
          clear HB4 HQ5 X4 y0 y1 hx hxm hbo hO' hO hX hI hcod hpF hlns hok
          go_wp2_with fail
          refine hl.out.mono ?_
          rintro e w6 ⟨rfl, X6⟩
          go_wp2_with fail
          refine bodyPost_ret (results_tmp2 rfl _ _ _) rfl ?_
          unfold PrintR
          rw [hp7.out]
          exact ⟨rfl, X1'.out.trans (hX5.out.trans X6)⟩
        | true =>
          have hok2 : Hid (∀ x ∈ C.take (j + 1), Src.opdOk A L x = true) := hidden (fun x hx2 => by
            rw [List.take_add_one, hx] at hx2
            rcases List.mem_append.1 hx2 with h | h
            · exact hok.out x h
            · simp at h; rw [h]; exact hbo)
          have hdr := drop_at hx
          have hcl : Src.codeL d (C.drop j) = (2 * (Src.indF d (o : Int)).1, Src.opn (o : Int), Src.opdW ((o : Int), (k : Int))) :: Src.codeL (Src.indF d (o : Int)).2 (C.drop (j + 1)) := by rw [hdr]; rfl
          obtain ⟨i1, i2⟩ := ind_le d (o : Int)
          have hin := fun W hB => indent_any d dp (o : Int) (by omega) W hB
          obtain ⟨m1, hm1⟩ : ∃ m, (Src.indF d (o : Int)).1 = m := ⟨_, rfl⟩
          obtain ⟨m2, hm2⟩ : ∃ m, (Src.indF d (o : Int)).2 = m := ⟨_, rfl⟩
          rw [hm1, hm2] at hcl
          rw [hm1] at i1
          rw [hm2] at i2
          simp only [hm1, hm2] at hin
          obtain ⟨tl, htl⟩ : ∃ l, Src.opn (o : Int) ++ opdS ((o : Int), (k : Int)) = l := ⟨_, rfl⟩
          have htlen : tl.length ≤ 32 := by
            rw [← htl, List.length_append]
            have h1 := opdS_len (o : Int) k hk32
            have h2 := opn_len ho36
            have h3 : (Src.opn (o : Int)).length = (opAt (o : Int)).1.size := by simp [Src.opn]
            omega
          obtain ⟨ln, hln⟩ : ∃ l, List.replicate (2 * m1) (32 : UInt8) ++ tl = l := ⟨_, rfl⟩
          have hlnlen : ln.length ≤ 3000 := by rw [← hln, List.length_append, List.length_replicate]; omega
          have hcod2 : Hid ((U ++ [ln]) ++ (Src.codeL m2 (C.drop (j + 1))).map lnL = (Src.progL A L C).map lnL) := hidden (by
            rw [← hcod.out, hcl, List.map_cons, List.append_assoc]
            have : lnL (2 * m1, Src.opn (o : Int), Src.opdW ((o : Int), (k : Int))) = ln := by rw [← hln, ← htl]; exact code_line (2 * m1) ((o : Int), (k : Int))
            rw [this]
            rfl)
          have a1 := add_run2 (List.replicate (2 * m1) 32) tl ln hln.symm (by omega)
          rw [htl] at hl
          obtain ⟨TL, hTL⟩ : ∃ y, ba tl = y := ⟨_, rfl⟩
          obtain ⟨IN, hIN⟩ : ∃ y, ba (List.replicate (2 * m1) (32 : UInt8)) = y := ⟨_, rfl⟩
          obtain ⟨LN, hLN⟩ : ∃ y, ba ln = y := ⟨_, rfl⟩
          rw [hTL, hIN, hLN] at a1
          rw [hTL] at hl
          simp only [hIN] at hin
          have hlns2 : Hid (∀ l ∈ U ++ [ln], l.length ≤ 3000) := hidden (fun l hl2 => by
            rcases List.mem_append.1 hl2 with h | h
            · exact hlns.out l h
            · simp at h; rw [h]; exact hlnlen)
          replace hl := hidden hl
          replace hin := hidden hin
          replace hLN := hidden hLN
          replace hnu := hidden hnu
          clear HB4 HQ5 X4 y0 y1 hx hxm hbo hO' hO hX hI hcod hlns hok hdr hcl hm1 hm2 htl hln hlnlen hTL hIN htlen
          go_wp2_with fail
          refine hl.out.mono ?_
          rintro e w6 ⟨rfl, X6⟩
          have hX6 := hidden (hX5.out.trans X6)
          have HB6 := HB4'.out.ext X6
          have d0 := HB6.cell 0 _ rfl
          have HD6 := hidden (HD5.out.ext X6)
          have hO6 := hidden (own_ext hO5.out X6)
          clear X6 g0 g1 g2 d1
          go_wp2_with fail
          refine (hin.out w6 HD6.out).mono ?_
          rintro e w7 ⟨rfl, HD7, hC7⟩
          have hnd : (Value.slice au nu cu).ownBlock ≠ some dp := own_ne_blk hO6.out HD6.out (by decide)
          have hO7 := own_chg hO6.out hC7 (fun x hx => by simp at hx; rw [hx]; exact hnd)
          have hX7 : Hid (Ext w1 w7) := hidden ((Chg.of_ext [] hX6.out).trans hC7 (fun x hx => by simp at hx; right; omega)).ext
          have HD7' := hidden HD7
          clear hC7 HD7
          go_wp2_with (at_builtin; refine wpList_append_own_at _ rfl _ _ 31 rfl (q + 1) 9 i0 (.string ⟨#[]⟩) 1 16 Tryz.underlying31 ii iz0 iz1 iz2 rfl (by decide) (.slice au nu cu) nu (U.map sv) rfl (World.ownsRow.alloc hO7 _) ⟨w7.heap.size, 0, none⟩ 1 1 [.string LN] rfl rfl (World.news_of_block (cs := #[.string LN]) (t := 9) (fr := (0, 0)) (heap_alloc_new w7 _)) (by simp [Value.oneCell']) (by unfold maxLen; omega) (by omega) (by have := hX7.out.size; rw [hs1] at this; simp; omega) ?_; intro v8 w8 hown8 hgrow8 _ hb8)
          have hX8 : Hid (Ext w1 w8) := hidden (((Chg.of_ext [] hX7.out).trans (grow_chg hgrow8) (fun x hx => by simp at hx; exact Or.inr (by rw [hs1]; exact (own_lt hO7 (by simp [hx])).1))).ext)
          have HD8 : Hid (Blk w8 dp 3 [.int .i64 (m2 : Int)]) := hidden (HD7'.out.chg (grow_chg hgrow8) (by simp; exact fun e => hnd e))
          have hO8 : Hid (w8.ownsRow (q + 1) 9 1 v8 (U ++ [ln]).length ((U ++ [ln]).map sv)) := hidden (by
            rw [List.length_append, List.map_append, hnu.out]
            have e : ([ln] : List (List UInt8)).map sv = [.string LN] := by rw [← hLN.out]; rfl
            rw [e]
            exact hown8)
          clear hown8 hgrow8 hb8 hO7 hnd
          go_wp2_with fail
          go_roundw
          case rel => exact ⟨j + 1, U ++ [ln], m2, by omega, by go_num, by omega, ⟨v8, rfl, hcod2, hO8, hX8, HD8, by rw [List.length_append, hnu.out]; simp; omega⟩, hok2, hlns2⟩
          case measure => simp [intOf]; omega
      · obtain rfl : j = nC := by omega
        have hge : ¬ (j : Int) < (j : Int) := by omega
        have hUp : U = (Src.progL A L C).map lnL := by
          rw [← hcod.out, List.drop_of_length_le (by rw [hnC'.out]; exact Nat.le_refl _)]
          exact (List.append_nil _).symm
        have hall : C.all (Src.opdOk A L) = true := List.all_eq_true.2 (fun x hx => hok.out x (by rw [List.take_of_length_le (by rw [hnC'.out]; exact Nat.le_refl _)]; exact hx))
        have htx : Lib.join ((((U ++ [[]]).map ba)).map (fun b : ByteArray => b.data.toList)) [10] = Src.textP A L C := by
          have e : (((U ++ [[]]).map ba)).map (fun b : ByteArray => b.data.toList) = U ++ [[]] := by
            rw [List.map_map]
            have : ((fun x : ByteArray => x.data.toList) ∘ ba) = id := by funext l; rfl
            rw [this, List.map_id]
          rw [e, join_lines, hUp, text_flat]
        have htl : (Src.textP A L C).length ≤ 10000000 := by
          have h1 := flat_bound U hlns.out
          have h2 : U.flatMap (· ++ [10]) = Src.textP A L C := by rw [hUp, text_flat]
          rw [h2] at h1
          have : U.length * 3001 ≤ 1100 * 3001 := Nat.mul_le_mul_right _ (by omega)
          omega
        have hpF2 : Src.printF A L C = if 8192 < (Src.textP A L C).length then ([], 5) else (Src.textP A L C, 0) := by rw [hpF.out, if_neg (by rw [hall]; decide)]
        obtain ⟨TX, hTX⟩ : ∃ t, Src.textP A L C = t := ⟨_, rfl⟩
        rw [hTX] at htx htl hpF2
        have hxl : (((U ++ [[]]).map ba)).length = nu + 1 := by simp [hnu]
        have hjn : ∀ (bk c : Nat) (W : World), Rd W 1 (.slice (some ⟨bk, 0, none⟩) (nu + 1) c) (nu + 1) ((U ++ [[]]).map sv) → Calls Tryz.prog 17 #[.slice (some ⟨bk, 0, none⟩) (nu + 1) c, .string ⟨#[10]⟩] W fun e w' => e = .returned (.string ⟨TX.toArray⟩) ∧ Below W.heap.size W w' := by
          intro bk c W h1
          obtain ⟨b', o', he, hbl, hcl⟩ := h1.cells (by omega)
          simp only [Option.some.injEq, Addr.mk.injEq, and_true] at he
          obtain ⟨rfl, rfl⟩ := he
          have := Tryz.strings_Join bk 0 c ((U ++ [[]]).map ba) ⟨#[10]⟩ W (fun jj x hx => by
            have hjl : jj < ((U ++ [[]]).map sv).length := by
              have := (List.getElem?_eq_some_iff.1 hx).1
              simpa using this
            rw [hcl jj hjl]
            rw [map_sv]
            rw [List.getD_eq_getElem?_getD, List.getElem?_map, hx]
            rfl) hbl (by rw [hxl]; omega) (by rw [hxl]; exact h1.cap) (by
            rw [show (⟨#[10]⟩ : ByteArray).data.toList = [10] from rfl, htx]; omega)
          rw [hxl, show (⟨#[10]⟩ : ByteArray).data.toList = [10] from rfl, htx] at this
          exact this
        obtain ⟨nt, hnt⟩ : ∃ n, TX.length = n := ⟨_, rfl⟩
        obtain ⟨TB, hTB⟩ : ∃ t : ByteArray, ⟨TX.toArray⟩ = t := ⟨_, rfl⟩
        simp only [hTB] at hjn
        have hlen : ∀ w, (Builtin.len_ #[9] 3 #[.string TB]).run Tryz.prog w = .ok (.int .i64 (nt : Int)) w := by
          intro w
          rw [run_len_string _ _ _ _ (by kernel_rfl), ← hTB]
          show Result.ok (Value.int .i64 ((TX.toArray.size : Nat) : Int)) w = _
          rw [List.size_toArray, hnt]
        rw [hnt] at hpF2
        replace hjn := hidden hjn
        replace hpF2 := hidden hpF2
        replace hTB := hidden hTB
        replace hnu := hidden hnu
        have hO7 := hidden hO'
        clear hcod hok hpF hlns hall htx hxl hTX hUp hnt hO hI htl hO'
        have hO6 := hO7.out
        go_wp2_with (at_builtin; refine wpList_append_own_at _ rfl _ _ 31 rfl (q + 1) 9 i0 (.string ⟨#[]⟩) 1 16 Tryz.underlying31 ii iz0 iz1 iz2 rfl (by decide) (.slice au nu cu) nu (U.map sv) rfl (World.ownsRow.alloc hO6 _) ⟨wr.heap.size, 0, none⟩ 1 1 [.string ⟨#[]⟩] rfl rfl (World.news_of_block (cs := #[.string ⟨#[]⟩]) (t := 9) (fr := (0, 0)) (heap_alloc_new wr _)) (by simp [Value.oneCell']) (by unfold maxLen; omega) (by omega) (by have := hX.out.size; rw [hs1] at this; simp; omega) ?_; intro v8 w8 hown8 hgrow8 _ hb8; obtain ⟨g8, c8, rfl, -⟩ := own_some8 hown8 (by omega))
        have hX8 : Hid (Ext w1 w8) := hidden (((Chg.of_ext [] hX.out).trans (grow_chg hgrow8) (fun x hx => by simp at hx; exact Or.inr (by rw [hs1]; exact (own_lt hO6 (by simp [hx])).1))).ext)
        have hR8 : Rd w8 1 (.slice (some ⟨g8, 0, none⟩) (nu + 1) c8) (nu + 1) ((U ++ [[]]).map sv) := by
          rw [List.map_append]
          exact Rd.of_own hown8
        have hj8 := hidden (hjn.out g8 c8 w8 hR8)
        clear hown8 hgrow8 hb8 hO6 hR8 hjn
        refine hj8.out.mono ?_
        rintro e w9 ⟨rfl, X9⟩
        have hX9 : Hid (Ext w w9) := hidden (X1'.out.trans (hX8.out.trans X9))
        clear X9
        by_cases h81 : 8192 < nt
        · have h82 : (8192 : Int) < (nt : Int) := by omega
          have hp5 : Hid (Src.printF A L C = ([], 5)) := hidden (by rw [hpF2.out, if_pos h81])
          clear hpF2
          go_wp2_with fail
          refine bodyPost_ret (results_tmp2 rfl _ _ _) rfl ?_
          unfold PrintR
          rw [hp5.out]
          exact ⟨rfl, hX9.out⟩
        · have h82 : ¬ (8192 : Int) < (nt : Int) := by omega
          have hp5 : Hid (Src.printF A L C = (TX, 0)) := hidden (by rw [hpF2.out, if_neg h81])
          clear hpF2
          go_wp2_with fail
          refine bodyPost_ret (results_tmp2 rfl _ _ _) rfl ?_
          unfold PrintR
          rw [hp5.out]
          exact ⟨by rw [← hTB.out]; rfl, hX9.out⟩
  · have hef : encF A L C = (formE A L C, []) := by unfold encF; rw [if_pos hz]
    have hpF : Hid (Src.printF A L C = ([], formE A L C)) := hidden (by unfold Src.printF; rw [if_pos hz])
    rw [hef] at he1
    have hne : (formE A L C != 0) = true := by simpa using hz
    obtain ⟨fe, hfe⟩ : ∃ f, formE A L C = f := ⟨_, rfl⟩
    rw [hfe] at he1 hne hpF
    replace he1 := hidden he1
    clear henc hdec hlin rA rC hT X1 hnA hnC hA hC hef hz hfe HB1
    go_enter Tryz.func7, Tryz.ntmps7
    go_wp2_with fail
    refine he1.out.mono ?_
    rintro x w2 ⟨vb, rfl, -, X2⟩
    go_wp2_with fail
    refine bodyPost_ret (results_tmp2 rfl _ _ _) rfl ?_
    unfold PrintR
    rw [hpF.out]
    exact ⟨rfl, X1'.out.trans X2⟩
end Go.Proofs.YthjnchjfmbblfaaGreatDoor
