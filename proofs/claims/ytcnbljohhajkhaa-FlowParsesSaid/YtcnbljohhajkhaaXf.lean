/- Layer 18, the reference: Partners, Loops; FlowPairs. -/
import Derived.Test.YtcnbljohhajkhaaXe
import Derived.Test.YtcnbljohhajkhaaWv
import Derived.Test.YtcnbljohhajkhaaWq
namespace Go.Proofs.Ytcnbljohhajkhaa
open Go.RowKit
set_option linter.unusedVariables false
set_option linter.unusedSimpArgs false
attribute [local go_sem ↓] Go.wp_at_zero Go.wp_at_succ

theorem pt_pair (C : List (Int × Int)) : (ptR C).1 = (pairR C).1 ∧ (ptR C).2.2 = (pairR C).2 ∧ (ptR C).2.2 = (parR C).2.2 ∧ (ptR C).2.1 = (parR C).2.1 := by
  unfold ptR pairR parR
  split
  · split
    next h => simp [h]
    next h => simp [h]
  · simp
set_option maxHeartbeats 1000000 in
set_option maxRecDepth 100000 in
theorem rpartners_any (v : Value) (C : List (Int × Int)) (w : World) (h : Code18 w v C) :
    Calls Try.prog 15 #[v] w (PairP w C) := by
  have hp := hidden (partners_any v C w h)
  obtain ⟨e1, e2, -, -⟩ := pt_pair C
  replace e1 := hidden e1
  replace e2 := hidden e2
  clear h
  go_enter Try.func15, Try.ntmps15
  go_wp2_with fail
  refine hp.out.mono ?_
  rintro x w1 ⟨vo, rfl, hO, hX⟩
  rw [e1.out] at hO
  rw [e2.out]
  replace hO := hidden hO
  replace hX := hidden hX
  go_wp2_with fail
  go_ret2
  exact ⟨_, rfl, hO.out, hX.out⟩
set_option maxHeartbeats 2000000 in
set_option maxRecDepth 100000 in
theorem rloops_any (v : Value) (C : List (Int × Int)) (w : World) (h : Code18 w v C) :
    Calls Try.prog 17 #[v] w (LoopP w C) := by
  have hpar := partners_any v C w h
  obtain ⟨n, hn⟩ : ∃ n, C.length = n := ⟨_, rfl⟩
  obtain ⟨a, cap, rfl, hcap, hcap2, -⟩ := Rd.shape h
  have hR := hidden h
  rw [hn] at hR hcap hpar ⊢
  replace hn := hidden hn
  replace hpar := hidden hpar
  have hpp := (pt_pair C).2.2.1
  obtain ⟨e, he⟩ : ∃ e, (parR C).2.2 = e := ⟨_, rfl⟩
  have hLR : Hid (loopR C = if e = 0 then (lopF C C.length, 0) else ([], e)) := by show _ = _; unfold loopR; rw [he]
  have hbd : e = 0 → n ≤ 1024 := fun h0 => by rw [← hn.out]; exact parR_len C (by rw [he, h0])
  rw [he] at hpp
  replace he := hidden he
  replace hpp := hidden hpp
  obtain ⟨i1, hi, hz0, hz1, hz2⟩ := info_parts intinfo
  have hia := hidden hi
  clear h hi
  go_enter Try.func17, Try.ntmps17
  go_wp2_with fail
  refine hpar.out.mono ?_
  clear hpar
  rintro x w1 ⟨vt, rfl, -, hX1⟩
  rw [hpp.out]
  replace hX1 := hidden hX1
  by_cases h0 : e = 0
  · subst h0
    have hn1 := hbd rfl
    go_wp2_with fail
    go_loopw [7, 8] (fun vo ix wr => ∃ (k : Nat), k ≤ n ∧ ix = .int .i64 (k : Int) ∧ Hid (OwnI wr w.heap.size vo (lopF C k)) ∧ Hid (Ext w wr)) (fun _ ix _ => (n - intOf ix).toNat)
    case atStart => exact ⟨0, by omega, rfl, hidden (by simpa [lopF] using OwnI.nil' w1 w.heap.size), hX1⟩
    case round =>
      obtain ⟨k, hk, rfl, hO, hX⟩ := hrel
      obtain ⟨W, hWW⟩ : ∃ Z, Z = wr := ⟨_, rfl⟩
      subst hWW
      by_cases hlt : k < n
      · have hlt' : (k : Int) < (n : Int) := by omega
        obtain ⟨b, off, rfl, -, -⟩ := Rd.cells (cs := C.flatMap icell) (w := w) (sz := 2) (by have := hR.out; unfold Code18 at this; rw [hn.out] at this; exact this) (show 0 < n by omega)
        obtain ⟨x0, -⟩ := code_at hR.out k (by rw [hn.out]; exact hlt)
        replace x0 := hX.out.cell x0
        have hlo := lopF_succ C k
        obtain ⟨u, hu⟩ : ∃ u, opAt C k = u := ⟨_, rfl⟩
        rw [hu] at x0 hlo
        replace hu := hidden hu
        have hll := lopF_len C k
        obtain ⟨lk, hlke⟩ : ∃ lk, lopF C k = lk := ⟨_, rfl⟩
        rw [hlke] at hO hlo hll
        replace hlke := hidden hlke
        have hkw : IntKind.i64.wrap ((k : Int) + 1) = (k : Int) + 1 := IntWalk.i64_in _ (by omega)
        have hws := hX.out.size
        by_cases h29 : u = 29
        · subst h29
          rw [if_pos rfl] at hlo
          replace hlo := hidden hlo
          have HO := hidden (show (W.alloc (.cells #[.int .i64 (k : Int)] 3)).ownsRow w.heap.size 3 1 u7 lk.length (lk.map (Value.int .i64)) from own_ext hO.out ((Ext.refl W).alloc _))
          have hnw := hidden (rd_one W (k : Int))
          go_wp2_with (at_builtin; refine wpList_append_rd (by rfl) _ _ 32 (by rfl) w.heap.size 3 i1 (.int .i64 0) 1 8 Try.underlying32 hia.out hz0 hz1 hz2 rfl (by decide) u7 lk.length (lk.map (Value.int .i64)) (by rfl) HO.out (some ⟨W.heap.size, 0, none⟩) 1 1 [.int .i64 (k : Int)] (by rfl) hnw.out (by simp [Value.oneCell']) (by unfold maxLen; omega) (by omega) (by simp; omega) ?_; intro v' w4 hown4 hgrow4 hat4)
          have hO2 : OwnI w4 w.heap.size v' (lk ++ [(k : Int)]) := by
            unfold OwnI
            rw [List.length_append, List.map_append]
            exact hown4
          have hX4 : Ext w w4 := ((Chg.of_ext [] (hX.out.alloc _)).grown hgrow4 (fun k hk => Or.inr (own_lt HO.out hk).1)).ext
          go_roundw
          case rel => exact ⟨k + 1, by omega, by go_num, hidden (by rw [hlo.out]; exact hO2), hX4⟩
          case measure => simp [intOf] <;> omega
        · have hu' : (u == 29) = false := by simp; exact h29
          rw [if_neg h29] at hlo
          replace hlo := hidden hlo
          go_wp2_with fail
          go_roundw
          case rel => exact ⟨k + 1, by omega, by go_num, hidden (by rw [hlo.out]; exact hO.out), hX⟩
          case measure => simp [intOf] <;> omega
      · obtain rfl : k = n := by omega
        go_wp2_with fail
        go_ret2
        unfold LoopP
        rw [hLR.out]
        simp only [if_true]
        exact ⟨_, rfl, by rw [hn.out]; exact hO.out, hX.out⟩
  · have h0' : (e != 0) = true := by simp; exact h0
    go_wp2_with fail
    go_ret2
    unfold LoopP
    rw [hLR.out, if_neg h0]
    exact ⟨_, rfl, OwnI.nil' _ _, hX1.out⟩
set_option maxHeartbeats 2000000 in
set_option maxRecDepth 100000 in
theorem FlowPairs_law (v : Value) (C : List (Int × Int)) (hok : ∀ x ∈ C, (-9223372036854775808 ≤ x.1 ∧ x.1 ≤ 9223372036854775807) ∧ (0 ≤ x.2 ∧ x.2 ≤ 4294967295)) (w : World) (h : Code18 w v C) :
    Calls Try.prog 4 #[v] w fun x w' => x = .returned (.bool true) ∧ Ext w w' := by
  have hL := list_all
  have hf := few_any v C w h
  have haw := hidden (awake_any hL)
  have HC := hidden h
  have hp := hidden (pair_any hL v C w h)
  clear h hok
  go_enter Try.func4, Try.ntmps4
  by_cases hfew : C.length ≤ 100 ∨ 1024 < C.length ∧ C.length < 1033
  · rw [show decide (C.length ≤ 100 ∨ 1024 < C.length ∧ C.length < 1033) = true from decide_eq_true hfew] at hf
    replace hf := hidden hf
    clear hfew
    go_wp2_with fail
    refine hf.out.mono ?_
    rintro e w1 ⟨rfl, hw1⟩
    rw [hw1]
    clear hw1
    go_wp2_with fail
    refine hp.out.mono ?_
    rintro x w2 ⟨va, rfl, hO, hX⟩
    have HC2 := hidden (HC.out.ext hX)
    have hX2 := hidden hX
    have HA2 := hidden (OwnI.rd hO)
    have hq := hidden (rpartners_any v C w2 HC2.out)
    clear hp hf hO hX
    go_wp2_with fail
    refine hq.out.mono ?_
    rintro x w3 ⟨vb, rfl, hO, hX⟩
    have HC3 := hidden (HC2.out.ext hX)
    have HA3 := hidden (Rd.ext HA2.out hX : RdI w3 va _)
    have HB3 := hidden (OwnI.rd hO)
    have hX3 := hidden (hX2.out.trans hX)
    have hlo := hidden (loops_any hL v C w3 HC3.out)
    clear hq hO hX HC2 HA2 hX2
    go_wp2_with fail
    refine hlo.out.mono ?_
    rintro x w4 ⟨vx, rfl, hO, hX⟩
    have HC4 := hidden (HC3.out.ext hX)
    have HA4 := hidden (Rd.ext HA3.out hX : RdI w4 va _)
    have HB4 := hidden (Rd.ext HB3.out hX : RdI w4 vb _)
    have HX4 := hidden (OwnI.rd hO)
    have hX4 := hidden (hX3.out.trans hX)
    have hrl := hidden (rloops_any v C w4 HC4.out)
    clear hlo hO hX HC3 HA3 HB3 hX3
    go_wp2_with fail
    refine hrl.out.mono ?_
    rintro x w5 ⟨vy, rfl, hO, hX⟩
    have HA5 : RdI w5 va _ := Rd.ext HA4.out hX
    have HB5 : RdI w5 vb _ := Rd.ext HB4.out hX
    have HX5 := hidden (Rd.ext HX4.out hX : RdI w5 vx _)
    have HY5 := hidden (OwnI.rd hO)
    have hX5 := hidden (hX4.out.trans hX)
    have heq := hidden (equal_any va vb _ w5 HA5 HB5)
    clear hrl hO hX HC4 HA4 HB4 HX4 hX4 HA5 HB5
    go_wp2_with fail
    refine heq.out.mono ?_
    rintro x w6 ⟨rfl, hX⟩
    have heq2 := hidden (equal_any vx vy _ w6 (Rd.ext HX5.out hX) (Rd.ext HY5.out hX))
    have hX6 := hidden (hX5.out.trans hX)
    clear heq hX HX5 HY5 hX5
    go_wp2_with fail
    refine heq2.out.mono ?_
    rintro x w7 ⟨rfl, hX⟩
    have hX7 := hidden (hX6.out.trans hX)
    clear heq2 hX hX6
    go_wp2_with fail
    refine (haw.out w7).mono ?_
    rintro x w9 ⟨rfl, hX⟩
    have hX9 := hidden (hX7.out.trans hX)
    go_wp2_with fail
    go_ret
    exact ⟨rfl, hX9.out⟩
  · rw [show decide (C.length ≤ 100 ∨ 1024 < C.length ∧ C.length < 1033) = false from decide_eq_false hfew] at hf
    replace hf := hidden hf
    clear hfew hp
    go_wp2_with fail
    refine hf.out.mono ?_
    rintro e w1 ⟨rfl, hw1⟩
    rw [hw1]
    clear hw1
    go_wp2_with fail
    refine (haw.out w).mono ?_
    rintro x w9 ⟨rfl, hX⟩
    replace hX := hidden hX
    go_wp2_with fail
    go_ret
    exact ⟨rfl, hX.out⟩
end Go.Proofs.Ytcnbljohhajkhaa
