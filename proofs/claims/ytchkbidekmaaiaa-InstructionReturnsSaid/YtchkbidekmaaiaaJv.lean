/- SameArrays and Same of the reference of layer 15. -/
import Derived.Test.YtchkbidekmaaiaaSb
import Derived.Test.YtchkbidekmaaiaaJn
import Derived.Laws.StructEq
import Derived.Outline
namespace Go.Proofs.Ytchkbidekmaaiaa
open Go.RowKit
set_option linter.unusedVariables false
attribute [local go_sem ↓] Go.wp_at_zero Go.wp_at_succ

theorem neqA (w : World) (a c : Bool) (b d : Int) : (binOp .neq 72 (.agg #[.bool a, .int .i64 b]) (.agg #[.bool c, .int .i64 d])).run Try.prog w = .ok (.bool (decide ((a, b) ≠ (c, d)))) w := by
  by_cases h1 : a = c <;> by_cases h2 : b = d <;> simp [go_sem, h1, h2]
theorem neqI (w : World) (a b c d : Int) : (binOp .neq 53 (.agg #[.int .i64 a, .int .u32 b]) (.agg #[.int .i64 c, .int .u32 d])).run Try.prog w = .ok (.bool (decide ((a, b) ≠ (c, d)))) w := by
  by_cases h1 : a = c <;> by_cases h2 : b = d <;> simp [go_sem, h1, h2]

set_option maxHeartbeats 1000000 in
theorem samearr_any (va vb : Value) (A B : List (Bool × Int)) (w : World) (ha : Arr w va A) (hb : Arr w vb B) :
    Calls Try.prog 45 #[va, vb] w fun x w' => x = .returned (.bool (decide (A = B))) ∧ Ext w w' := by
  obtain ⟨a, ca, rfl, a1, a2, a3⟩ := Rd.shape ha
  obtain ⟨b, cb, rfl, b1, b2, b3⟩ := Rd.shape hb
  have HA0 : Rd w 2 (.slice a A.length ca) A.length (A.flatMap cA) := ha
  have HB0 : Rd w 2 (.slice b B.length cb) B.length (B.flatMap cA) := hb
  by_cases hl : A.length = B.length
  · obtain ⟨n, hn⟩ : ∃ n, A.length = n := ⟨_, rfl⟩
    rw [hn] at hl a1 HA0 ⊢
    rw [← hl] at HB0 b1 ⊢
    have HA := hidden HA0
    have HB := hidden HB0
    have Hn := hidden hn
    have Hl := hidden hl
    clear ha hb hn hl HA0 HB0
    go_enter Try.func45, Try.ntmps45
    go_wp2_with fail
    go_loopw [5] (fun i wr => ∃ k : Nat, k ≤ n ∧ i = .int .i64 (k : Int) ∧ Hid (A.take k = B.take k) ∧ Ext w wr) (fun i _ => (n - intOf i).toNat)
    case atStart => exact ⟨0, by omega, rfl, rfl, Ext.refl _⟩
    case round =>
      obtain ⟨k, hk, rfl, hq, hE⟩ := hrel
      by_cases hlt : k < n
      · obtain ⟨p, oa, rfl, -, -⟩ := HA.out.cells (by omega)
        obtain ⟨q, ob, rfl, -, -⟩ := HB.out.cells (by omega)
        have e1 := Hn.out
        have e2 := Hl.out
        obtain ⟨x, hx, -⟩ := at_lt A (k := k) (by omega)
        obtain ⟨y, hy, -⟩ := at_lt B (k := k) (by omega)
        obtain ⟨c0, c1⟩ := rd2_at cA_len HA.out k x hx _ _ rfl
        obtain ⟨c2, c3⟩ := rd2_at cA_len HB.out k y hy _ _ rfl
        have d0 := hE.cell c0
        have d1 := hE.cell c1
        have d2 := hE.cell c2
        have d3 := hE.cell c3
        have tx : A.take (k + 1) = A.take k ++ [x] := by
          rw [List.take_succ_eq_append_getElem (by omega)]
          rw [(List.getElem?_eq_some_iff.1 hx).2]
        have ty : B.take (k + 1) = B.take k ++ [y] := by
          rw [List.take_succ_eq_append_getElem (by omega)]
          rw [(List.getElem?_eq_some_iff.1 hy).2]
        obtain ⟨xa, xb⟩ := x
        obtain ⟨ya, yb⟩ := y
        simp only at d0 d1 d2 d3
        have hnq := fun w => neqA w xa ya xb yb
        replace tx := hidden tx
        replace ty := hidden ty
        have Hx := hidden hx
        have Hy := hidden hy
        clear c0 c1 c2 c3 e1 e2 hx hy
        have hlt' : (k : Int) < (n : Int) := by omega
        by_cases hxy : (xa, xb) = (ya, yb)
        · have hdd : decide ((xa, xb) ≠ (ya, yb)) = false := by simp [hxy]
          rw [hdd] at hnq
          have hq2 : Hid (A.take (k + 1) = B.take (k + 1)) := by show _ = _; rw [tx.out, ty.out, hq.out, hxy]
          clear hxy hdd
          go_upto_region 6 with fail
          go_quiet (fail)
          go_wp2_with fail
          go_roundw
          case rel => exact ⟨k + 1, by omega, by go_num, hq2, ((Chg.of_ext [] hE).drewN _).ext⟩
          case measure => simp [intOf]; omega
        · have hdd : decide ((xa, xb) ≠ (ya, yb)) = true := by simp [hxy]
          rw [hdd] at hnq
          have hq2 : Hid (A ≠ B) := by
            intro h
            subst h
            have := Hx.out.symm.trans Hy.out
            injection this with this
            exact hxy this
          clear hxy hdd
          go_upto_region 6 with fail
          go_quiet (fail)
          go_wp2_with fail
          go_ret
          exact ⟨ret_bool (by simp [hq2.out]), ((Chg.of_ext [] hE).drewN _).ext⟩
      · have hkn : k = n := by omega
        subst hkn
        go_wp2_with fail
        go_ret
        refine ⟨ret_bool ?_, hE⟩
        have h := hq.out
        rw [List.take_of_length_le (by rw [Hn.out]; omega), List.take_of_length_le (by rw [← Hl.out]; omega)] at h
        simp [h]
  · have hli : ((A.length : Int) != (B.length : Int)) = true := by simp; omega
    have hne : Hid (A ≠ B) := fun h => hl (by rw [h])
    obtain ⟨n, hn⟩ : ∃ n, A.length = n := ⟨_, rfl⟩
    obtain ⟨m, hm⟩ : ∃ m, B.length = m := ⟨_, rfl⟩
    rw [hn, hm] at hli
    rw [hn] at a1 ⊢
    rw [hm] at b1 ⊢
    clear ha hb HA0 HB0 hl hn hm
    go_enter Try.func45, Try.ntmps45
    go_wp2_with fail
    go_ret
    exact ⟨ret_bool (by simp [hne.out]), Ext.refl _⟩

def sameP (A A' : List (Bool × Int)) (L L' : Int) (C C' : List (Int × Int)) : Bool := decide (L = L' ∧ A = A' ∧ C = C')
set_option maxHeartbeats 2000000 in
theorem sameprog_any (va vc va' vc' : Value) (A A' : List (Bool × Int)) (L L' : Int) (C C' : List (Int × Int)) (w : World) (ra : Arr w va A) (rc : Cod w vc C) (ra' : Arr w va' A') (rc' : Cod w vc' C') :
    Calls Try.prog 19 #[.agg #[va, .int .i64 L, vc], .agg #[va', .int .i64 L', vc']] w fun x w' => x = .returned (.bool (sameP A A' L L' C C')) ∧ Ext w w' := by
  obtain ⟨a, ca, rfl, a1, a2, a3⟩ := Rd.shape ra
  obtain ⟨b, cb, rfl, b1, b2, b3⟩ := Rd.shape ra'
  obtain ⟨c, cc, rfl, c1, c2, c3⟩ := Rd.shape rc
  obtain ⟨d, cd, rfl, d1, d2, d3⟩ := Rd.shape rc'
  have HA0 : Rd w 2 (.slice c C.length cc) C.length (C.flatMap cI) := rc
  have HB0 : Rd w 2 (.slice d C'.length cd) C'.length (C'.flatMap cI) := rc'
  have hsa := fun W (g : Ext w W) => samearr_any _ _ A A' W (Rd.ext ra g) (Rd.ext ra' g)
  have B0 : Blk ((w.alloc (.cells #[.slice a A.length ca, .int .i64 L, .slice c C.length cc] 33)).alloc (.cells #[.slice b A'.length cb, .int .i64 L', .slice d C'.length cd] 33)) w.heap.size 33 [.slice a A.length ca, .int .i64 L, .slice c C.length cc] := (Blk.new w [.slice a A.length ca, .int .i64 L, .slice c C.length cc] _).alloc _
  have B1 : Blk ((w.alloc (.cells #[.slice a A.length ca, .int .i64 L, .slice c C.length cc] 33)).alloc (.cells #[.slice b A'.length cb, .int .i64 L', .slice d C'.length cd] 33)) (w.heap.size + 1) 33 [.slice b A'.length cb, .int .i64 L', .slice d C'.length cd] := by
    have := Blk.new (w.alloc (.cells #[.slice a A.length ca, .int .i64 L, .slice c C.length cc] 33)) [.slice b A'.length cb, .int .i64 L', .slice d C'.length cd] 33
    rw [World.size_alloc] at this
    exact this
  have X0 : Ext w ((w.alloc (.cells #[.slice a A.length ca, .int .i64 L, .slice c C.length cc] 33)).alloc (.cells #[.slice b A'.length cb, .int .i64 L', .slice d C'.length cd] 33)) := ((Ext.refl w).alloc _).alloc _
  obtain ⟨nA, hnA⟩ : ∃ n, A.length = n := ⟨_, rfl⟩
  obtain ⟨nB, hnB⟩ : ∃ n, A'.length = n := ⟨_, rfl⟩
  obtain ⟨n, hn⟩ : ∃ n, C.length = n := ⟨_, rfl⟩
  obtain ⟨m, hm⟩ : ∃ m, C'.length = m := ⟨_, rfl⟩
  rw [hnA, hnB] at B0 B1 X0 hsa
  rw [hn] at HA0 c1
  rw [hm] at HB0 d1
  simp only [hn, hm, hnA, hnB] at B0 B1 X0 a1 b1 ⊢
  have HA := hidden HA0
  have HB := hidden HB0
  replace hn := hidden hn
  replace hm := hidden hm
  replace hsa := hidden hsa
  have p1 := B0.cell 1 _ rfl
  have q1 := B1.cell 1 _ rfl
  clear ra rc ra' rc' HA0 HB0 hnA hnB a1 b1
  by_cases hL : L = L'
  · subst hL
    go_enter Try.func19, Try.ntmps19
    go_wp2_with fail
    refine (hsa.out _ X0).mono ?_
    rintro e w1 ⟨rfl, g1⟩
    have B0' := B0.ext g1
    have B1' := B1.ext g1
    have X1 := X0.trans g1
    have p2 := B0'.cell 2 _ rfl
    have q2 := B1'.cell 2 _ rfl
    clear p1 q1 B0 B1 X0 g1
    by_cases hAA : A = A'
    · have hdd : decide (A = A') = true := by simp [hAA]
      have HAA := hidden hAA
      clear hAA
      by_cases hl : n = m
      · subst hl
        go_wp2_with fail
        clear p2 q2
        go_loopw [5] (fun i wr => ∃ k : Nat, k ≤ n ∧ i = .int .i64 (k : Int) ∧ Hid (C.take k = C'.take k) ∧ Hid (Blk wr w.heap.size 33 [.slice a nA ca, .int .i64 L, .slice c n cc]) ∧ Hid (Blk wr (w.heap.size + 1) 33 [.slice b nB cb, .int .i64 L, .slice d n cd]) ∧ Ext w wr) (fun i _ => (n - intOf i).toNat)
        case atStart => exact ⟨0, by omega, rfl, rfl, B0', B1', X1⟩
        case round =>
          clear B0' B1' X1
          obtain ⟨k, hk, rfl, hq, BB0, BB1, hE⟩ := hrel
          have r2 := BB0.out.cell 2 _ rfl
          have s2 := BB1.out.cell 2 _ rfl
          by_cases hlt : k < n
          · obtain ⟨p, oa, rfl, -, -⟩ := HA.out.cells (by omega)
            obtain ⟨q, ob, rfl, -, -⟩ := HB.out.cells (by omega)
            have e1 := hn.out
            have e2 := hm.out
            obtain ⟨x, hx, -⟩ := at_lt C (k := k) (by omega)
            obtain ⟨y, hy, -⟩ := at_lt C' (k := k) (by omega)
            obtain ⟨c0, c1⟩ := rd2_at cI_len HA.out k x hx _ _ rfl
            obtain ⟨c2, c3⟩ := rd2_at cI_len HB.out k y hy _ _ rfl
            have d0 := hE.cell c0
            have d1 := hE.cell c1
            have d2 := hE.cell c2
            have d3 := hE.cell c3
            have tx : C.take (k + 1) = C.take k ++ [x] := by
              rw [List.take_succ_eq_append_getElem (by omega)]
              rw [(List.getElem?_eq_some_iff.1 hx).2]
            have ty : C'.take (k + 1) = C'.take k ++ [y] := by
              rw [List.take_succ_eq_append_getElem (by omega)]
              rw [(List.getElem?_eq_some_iff.1 hy).2]
            obtain ⟨xa, xb⟩ := x
            obtain ⟨ya, yb⟩ := y
            simp only at d0 d1 d2 d3
            have hnq := fun w => neqI w xa xb ya yb
            replace tx := hidden tx
            replace ty := hidden ty
            have Hx := hidden hx
            have Hy := hidden hy
            clear c0 c1 c2 c3 e1 e2 hx hy
            have hlt' : (k : Int) < (n : Int) := by omega
            by_cases hxy : (xa, xb) = (ya, yb)
            · have hdd2 : decide ((xa, xb) ≠ (ya, yb)) = false := by simp [hxy]
              rw [hdd2] at hnq
              have hq2 : Hid (C.take (k + 1) = C'.take (k + 1)) := by show _ = _; rw [tx.out, ty.out, hq.out, hxy]
              clear hxy hdd2
              go_upto_region 6 with fail
              go_quiet (fail)
              go_wp2_with fail
              go_roundw
              case rel => exact ⟨k + 1, by omega, by go_num, hq2, Blk.drewN _ BB0.out, Blk.drewN _ BB1.out, ((Chg.of_ext [] hE).drewN _).ext⟩
              case measure => simp [intOf]; omega
            · have hdd2 : decide ((xa, xb) ≠ (ya, yb)) = true := by simp [hxy]
              rw [hdd2] at hnq
              have hq2 : Hid (C ≠ C') := by
                intro h
                subst h
                have := Hx.out.symm.trans Hy.out
                injection this with this
                exact hxy this
              clear hxy hdd2
              go_upto_region 6 with fail
              go_quiet (fail)
              go_wp2_with fail
              go_ret
              exact ⟨ret_bool (by unfold sameP; simp [hq2.out]), ((Chg.of_ext [] hE).drewN _).ext⟩
          · have hkn : k = n := by omega
            subst hkn
            go_wp2_with fail
            go_ret
            refine ⟨ret_bool ?_, hE⟩
            have h := hq.out
            rw [List.take_of_length_le (by rw [hn.out]; omega), List.take_of_length_le (by rw [hm.out]; omega)] at h
            unfold sameP
            simp [h, HAA.out]
      · have hli : ((n : Int) != (m : Int)) = true := by simp; omega
        have hne : Hid (C ≠ C') := fun h => hl (by rw [← hn.out, ← hm.out, h])
        clear hl
        go_wp2_with fail
        go_ret
        exact ⟨ret_bool (by unfold sameP; simp [hne.out]), X1⟩
    · have hdd : decide (A = A') = false := by simp [hAA]
      have HAA := hidden hAA
      clear hAA
      go_wp2_with fail
      go_ret
      exact ⟨ret_bool (by unfold sameP; simp [HAA.out]), X1⟩
  · have hLb : (L != L') = true := by simp [hL]
    have HL := hidden hL
    clear hL
    go_enter Try.func19, Try.ntmps19
    go_wp2_with fail
    go_ret
    exact ⟨ret_bool (by unfold sameP; simp [HL.out]), X0⟩
end Go.Proofs.Ytchkbidekmaaiaa
