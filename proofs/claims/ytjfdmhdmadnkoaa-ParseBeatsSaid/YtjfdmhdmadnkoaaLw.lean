/- Layer 35: Same of the reference; bytes as a string. -/
import Derived.Test.YtjfdmhdmadnkoaaLp
import Derived.Laws.BytesArg
import Derived.Laws.StructEq
namespace Go.Proofs.Ytjfdmhdmadnkoaa
open Go.RowKit
set_option linter.unusedVariables false
attribute [local go_sem ↓] Go.wp_at_zero Go.wp_at_succ

theorem neqT (w : World) (a b c d e f : Int) : (binOp .neq 60 (.agg #[.int .i64 a, .int .i64 b, .int .u8 c]) (.agg #[.int .i64 d, .int .i64 e, .int .u8 f])).run Try.prog w = .ok (.bool (decide ((a, b, c) ≠ (d, e, f)))) w := by
  by_cases h1 : a = d <;> by_cases h2 : b = e <;> by_cases h3 : c = f <;> simp [go_sem, h1, h2, h3]
theorem eqlT (w : World) (a b c d e f : Int) : (binOp .eql 60 (.agg #[.int .i64 a, .int .i64 b, .int .u8 c]) (.agg #[.int .i64 d, .int .i64 e, .int .u8 f])).run Try.prog w = .ok (.bool (decide ((a, b, c) = (d, e, f)))) w := by
  by_cases h1 : a = d <;> by_cases h2 : b = e <;> by_cases h3 : c = f <;> simp [go_sem, h1, h2, h3]

set_option maxRecDepth 100000 in
set_option maxHeartbeats 1000000 in
theorem sameT_any (va vb : Value) (la lb : List (Int × Int × Int)) (hla : la.length ≤ 900000) (hlb : lb.length ≤ 900000) (w : World) (ha : Toks w va la) (hb : Toks w vb lb) :
    Calls Try.prog 13 #[va, vb] w fun x w' => x = .returned (.bool (decide (la = lb))) ∧ Ext w w' := by
  obtain ⟨a, ca, rfl, a1, a2, a3⟩ := Rd.shape ha
  obtain ⟨b, cb, rfl, b1, b2, b3⟩ := Rd.shape hb
  by_cases hl : la.length = lb.length
  · obtain ⟨n, hn⟩ : ∃ n, la.length = n := ⟨_, rfl⟩
    have ha : Rd w 3 (.slice a la.length ca) la.length (la.flatMap tkc) := ha
    have hb : Rd w 3 (.slice b lb.length cb) lb.length (lb.flatMap tkc) := hb
    rw [hn] at hl a1 hla ha ⊢
    rw [← hl] at b1 hb ⊢
    obtain ⟨R, hR⟩ : ∃ R, decide (la = lb) = R := ⟨_, rfl⟩
    have hRf : ∀ k, k < n → (la.getD k (0, 0, 0) ≠ lb.getD k (0, 0, 0)) → R = false := fun k hk e => by
      rw [← hR, decide_eq_false_iff_not]
      rintro rfl
      exact e rfl
    have hRt : (∀ k, k < n → la.getD k (0, 0, 0) = lb.getD k (0, 0, 0)) → R = true := fun e => by
      rw [← hR, decide_eq_true_iff]
      apply List.ext_getElem (by omega)
      intro k h1 h2
      have := e k (by omega)
      simpa [List.getD, h1, h2] using this
    rw [hR]
    replace hn := hidden hn
    replace hl := hidden hl
    replace ha := hidden ha
    replace hb := hidden hb
    replace hRf := hidden hRf
    replace hRt := hidden hRt
    clear hR
    go_enter Try.func13, Try.ntmps13
    go_wp2_with fail
    go_loopw [5] (fun i wr => ∃ (k : Nat), k ≤ n ∧ i = .int .i64 (k : Int) ∧ Hid (∀ j, j < k → la.getD j (0, 0, 0) = lb.getD j (0, 0, 0)) ∧ Ext w wr) (fun i _ => n - (intOf i).toNat)
    case atStart => exact ⟨0, by omega, rfl, hidden (fun j hj => by omega), Ext.refl _⟩
    case round =>
      obtain ⟨k, hk, rfl, hA, hX⟩ := hrel
      obtain ⟨W, hWW⟩ : ∃ Z, Z = wr := ⟨_, rfl⟩
      subst hWW
      by_cases hlt : k < n
      · obtain ⟨bb, off, rfl, -, -⟩ := ha.out.cells (by omega)
        obtain ⟨bb2, off2, rfl, -, -⟩ := hb.out.cells (by omega)
        obtain ⟨x, hx, hxm⟩ := at_lt la (k := k) (by rw [hn.out]; exact hlt)
        obtain ⟨y, hy, hym⟩ := at_lt lb (k := k) (by rw [← hl.out]; exact hlt)
        obtain ⟨c0, c1, c2⟩ := rd3_at tkc_len ha.out k x hx _ _ _ rfl
        obtain ⟨d0, d1, d2⟩ := rd3_at tkc_len hb.out k y hy _ _ _ rfl
        have gx : la.getD k (0, 0, 0) = x := by simp [List.getD, hx]
        have gy : lb.getD k (0, 0, 0) = y := by simp [List.getD, hy]
        have hRf2 := hRf.out k hlt
        rw [gx, gy] at hRf2
        have hA2 : x = y → ∀ j, j < k + 1 → la.getD j (0, 0, 0) = lb.getD j (0, 0, 0) := fun e j hj => by
          rcases Nat.lt_or_ge j k with h1 | h1
          · exact hA.out j h1
          · obtain rfl : j = k := by omega
            rw [gx, gy, e]
        obtain ⟨L, Ds, B⟩ := x
        obtain ⟨L2, Ds2, B2⟩ := y
        simp only at c0 c1 c2 d0 d1 d2
        replace c0 := hX.cell c0
        replace c1 := hX.cell c1
        replace c2 := hX.cell c2
        replace d0 := hX.cell d0
        replace d1 := hX.cell d1
        replace d2 := hX.cell d2
        have i1 : (0 : Int) ≤ (k : Int) := by omega
        have i2 : (k : Int) < (n : Int) := by omega
        have hnq := fun w => neqT w L Ds B L2 Ds2 B2
        by_cases e : (L, Ds, B) = (L2, Ds2, B2)
        · have hA3 := hidden (hA2 e)
          have hdd : decide ((L, Ds, B) ≠ (L2, Ds2, B2)) = false := by simp [e]
          rw [hdd] at hnq
          clear hdd e
          clear gx gy hx hy hxm hym hRf2 hA2
          go_wp2_with fail
          go_quiet (fail)
          go_wp2_with fail
          go_round
          case rel => exact ⟨k + 1, by omega, by go_num, hA3, hX.drewN _⟩
          case measure => simp [intOf]; omega
        · have hRf3 := hidden (hRf2 e)
          have hdd : decide ((L, Ds, B) ≠ (L2, Ds2, B2)) = true := by simp [e]
          rw [hdd] at hnq
          clear hdd e
          clear gx gy hx hy hxm hym hRf2 hA2
          go_wp2_with fail
          go_quiet (fail)
          go_wp2_with fail
          go_ret
          exact ⟨ret_bool hRf3.out.symm, hX.drewN _⟩
      · have hfin := hidden (hRt.out (fun j hj => hA.out j (by omega)))
        go_wp2_with fail
        go_ret
        exact ⟨ret_bool hfin.out.symm, hX⟩
  · have hne : la ≠ lb := fun e => hl (by rw [e])
    have hr : Hid (decide (la = lb) = false) := hidden (by simp [hne])
    have hl2 : (la.length != lb.length) = true := by simp [hl]
    have hl3 : (((la.length : Nat) : Int) != ((lb.length : Nat) : Int)) = true := by simp; omega
    obtain ⟨n, hn⟩ : ∃ n, la.length = n := ⟨_, rfl⟩
    obtain ⟨m, hm⟩ : ∃ n, lb.length = n := ⟨_, rfl⟩
    rw [hn] at hl2 hl3 ⊢
    rw [hm] at hl2 hl3 ⊢
    clear hne hl ha hb a1 b1 hla hlb hn hm
    go_enter Try.func13, Try.ntmps13
    go_wp2_with fail
    go_ret
    exact ⟨ret_bool hr.out.symm, Ext.refl _⟩

/-- Bytes as a string. -/
theorem str_of {v : Value} {D : List Int} {w : World} (h : Rd8 w v D) : (convert 22 9 v).run Try.prog w = .ok (.string (strOfNums D)) w := by
  obtain ⟨ad, cap, rfl, q1, q2, q3⟩ := Rd.shape h
  by_cases h0 : 0 < D.length
  · obtain ⟨b, off, rfl, -⟩ := Rd8.some h h0
    exact run_convert_bytes_arg w 22 5 Try.underlying22 Try.underlying5 b off D.length cap D rfl (fun i hi => Rd8.at h i hi) 9 Try.underlying9
  · obtain rfl : D = [] := List.eq_nil_of_length_eq_zero (by omega)
    show (convert 22 9 (.slice ad 0 cap)).run Try.prog w = .ok (.string ByteArray.empty) w
    rw [run_convert_bytes_string w 22 9 5 _ 0 cap Try.underlying22 Try.underlying5 Try.underlying9]
    cases ad <;> simp [Conv.bytesToString, loadCells]
    all_goals rfl
end Go.Proofs.Ytjfdmhdmadnkoaa
