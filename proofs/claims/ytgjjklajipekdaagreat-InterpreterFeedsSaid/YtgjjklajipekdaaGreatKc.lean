
import Derived.Test.YtgjjklajipekdaaGreatJq
import Derived.Test.YtgjjklajipekdaaGreatJd
import Derived.Outline
namespace Go.Proofs.YtgjjklajipekdaaGreat
set_option maxHeartbeats 16000000
set_option maxRecDepth 100000
open Go.RowKit
set_option linter.unusedVariables false
attribute [local go_sem ↓] Go.wp_at_zero Go.wp_at_succ
def sumA : List (Bool × Int) → Int
 | [] => 0
 | a :: r => a.2 + sumA r
theorem sumA_snoc (l : List (Bool × Int)) (x : Bool × Int) : sumA (l ++ [x]) = sumA l + x.2 := by
 induction l with
 | nil => simp [sumA]
 | cons a l ih => show a.2 + sumA (l ++ [x]) = a.2 + sumA l + x.2; rw [ih]; omega
theorem sumA_nn (l : List (Bool × Int)) (h : ∀ x ∈ l, 1 ≤ x.2) : 0 ≤ sumA l := by
 induction l with
 | nil => exact Int.le_refl _
 | cons a l ih =>
  have := h a (by simp)
  have := ih (fun x hx => h x (by simp [hx]))
  show 0 ≤ a.2 + sumA l
  omega
theorem arrs_bad : ∀ (l : List (Bool × Int)) (left : Int), left ≤ 65536 → ∀ x ∈ l, (x.2 < 1 ∨ 65536 < x.2) → arrs left l = 2
 | [], _, _, x, hx, _ => by cases hx
 | a :: r, left, hl, x, hx, hb => by
  by_cases hc : a.2 < 1 ∨ left < a.2
  ·exact if_pos hc
  ·rw [show arrs left (a :: r) = arrs (left - a.2) r from if_neg hc]
   rcases List.mem_cons.1 hx with rfl | hx
   ·omega
   ·exact arrs_bad r (left - a.2) (by omega) x hx hb
theorem arrs_sum : ∀ (l : List (Bool × Int)) (left : Int), 0 ≤ left → (∀ x ∈ l, 1 ≤ x.2) → arrs left l = if sumA l ≤ left then 0 else 2
 | [], left, h0, _ => (if_pos h0).symm
 | a :: r, left, h0, h => by
  have h1 := h a (by simp)
  have hr : ∀ x ∈ r, 1 ≤ x.2 := fun x hx => h x (by simp [hx])
  have h2 := sumA_nn r hr
  by_cases hc : a.2 < 1 ∨ left < a.2
  ·rw [show arrs left (a :: r) = 2 from if_pos hc]
   exact (if_neg (by show ¬ a.2 + sumA r ≤ left; omega)).symm
  ·rw [show arrs left (a :: r) = arrs (left - a.2) r from if_neg hc, arrs_sum r (left - a.2) (by omega) hr]
   show _ = if a.2 + sumA r ≤ left then _ else _
   by_cases h3 : sumA r ≤ left - a.2
   ·rw [if_pos h3, if_pos (by omega)]
   ·rw [if_neg h3, if_neg (by omega)]
theorem rform_any (va vc : Value) (A : List (Bool × Int)) (L : Int) (C : List (Int × Int)) (hA : OkA A) (hC : OkI C) (hL0 : -9223372036854775808 ≤ L) (hL1 : L ≤ 9223372036854775807) (w : World) (ra : Arr w va A) (rc : Cod w vc C) :
  Calls Tryz.prog 31 #[.agg #[va, .int .i64 L, vc]] w fun x w' => x = .returned (.int .i64 (formE A L C)) ∧ Ext w w' := by
 obtain ⟨aa, ca, rfl, a1, a2, a3⟩ := Rd.shape ra
 obtain ⟨ac, cc, rfl, c1, c2, c3⟩ := Rd.shape rc
 obtain ⟨m, hm⟩ := ex A.length
 obtain ⟨n, hn⟩ := ex C.length
 have RA : Rd w 2 (.slice aa A.length ca) A.length (A.flatMap cA) := ra
 have RC : Rd w 2 (.slice ac C.length cc) C.length (C.flatMap cI) := rc
 rw [hn] at RC c1
 rw [hm] at RA a1
 simp only [hm, hn]
 have HB := Blk.new w [.slice aa m ca, .int .i64 L, .slice ac n cc] 25
 have X0 := (Ext.refl w).alloc (.cells #[.slice aa m ca, .int .i64 L, .slice ac n cc] 25)
 have hF : Hid (formE A L C = if arrE A ≠ 0 then arrE A else if L < 0 ∨ 16 < L then 2 else if 1024 < n then 6 else codE C) := by show _ = _; unfold formE; rw [hn]
 have hAE : Hid (arrE A = if 8 < m then 6 else arrs 65536 A) := by show _ = _; unfold arrE; rw [hm]
 have hck := rcheckI_any
 replace hck := hidden hck
 replace hm := hidden hm
 replace hn := hidden hn
 replace RA := hidden RA
 replace RC := hidden RC
 replace hA := hidden hA
 replace hC := hidden hC
 clear ra rc
 by_cases hb8 : 8 < m
 ·have hE : Hid (formE A L C = 6) := by show _ = _; rw [hF.out, hAE.out, if_pos hb8]; exact if_pos (by decide)
  go_enter Tryz.func31, Tryz.ntmps31
  go_wp2_with fail
  go_ret
  exact ⟨ret_int hE.out.symm, X0⟩
 ·have hAE2 : Hid (arrE A = arrs 65536 A) := by show _ = _; rw [hAE.out, if_neg hb8]
  have hm8 : m ≤ 8 := by omega
  obtain ⟨p0, p1, p2⟩ := HB.c3
  go_enter Tryz.func31, Tryz.ntmps31
  go_wp2_with fail
  go_loop [3, 4] (fun s i => ∃ (k : Nat) (S : Int), k ≤ m ∧ i = .int .i64 (k : Int) ∧ s = .int .i64 S ∧ 0 ≤ S ∧ S ≤ 65536 * (k : Int) ∧ Hid (S = sumA (A.take k)) ∧ Hid (∀ x ∈ A.take k, 1 ≤ x.2)) (fun _ i => m - (intOf i).toNat)
  case atStart => exact ⟨0, 0, by omega, rfl, rfl, by omega, by omega, rfl, fun x hx => by simp at hx⟩
  case round =>
   obtain ⟨k, S, hk, rfl, rfl, s0, s1, hS, hok⟩ := hrel
   by_cases hlt : k < m
   ·obtain ⟨b, off, rfl, -, -⟩ := RA.out.cells (by omega)
    obtain ⟨x, hx, hxm⟩ := at_lt A (k := k) (by rw [hm.out]; exact hlt)
    obtain ⟨x0, x1⟩ := hA.out x hxm
    obtain ⟨c0, c1⟩ := rd2_at cA_len RA.out k x hx _ _ rfl
    have tx : A.take (k + 1) = A.take k ++ [x] := by
     rw [List.take_succ_eq_append_getElem (by rw [hm.out]; exact hlt)]
     rw [(List.getElem?_eq_some_iff.1 hx).2]
    have hbad := arrs_bad A 65536 (by omega) x hxm
    obtain ⟨wd, sz⟩ := x
    simp only at x0 x1 c0 c1 hbad
    have d1 := X0.cell c1
    replace tx := hidden tx
    replace hbad := hidden hbad
    clear c0 c1 hx hxm
    by_cases hgood : 1 ≤ sz ∧ sz ≤ 65536
    ·obtain ⟨z0, z1⟩ := hgood
     go_wp2_with fail
     go_round
     case rel =>
      refine ⟨k + 1, S + sz, by omega, by go_num, rfl, by omega, by omega, ?_, ?_⟩
      ·show _ = _; rw [tx.out, sumA_snoc, hS.out]
      ·intro x hx
       rw [tx.out] at hx
       rcases List.mem_append.1 hx with hx | hx
       ·exact hok.out x hx
       ·simp at hx; subst hx; exact z0
     case measure => simp [intOf]; omega
    ·have hE : Hid (formE A L C = 2) := by show _ = _; rw [hF.out, hAE2.out, hbad.out (by omega)]; exact if_pos (by decide)
     by_cases hz1 : sz < 1
     ·clear hgood
      go_wp2_with fail
      go_ret
      exact ⟨ret_int hE.out.symm, X0⟩
     ·have hz2 : 65536 < sz := by omega
      clear hgood
      go_wp2_with fail
      go_ret
      exact ⟨ret_int hE.out.symm, X0⟩
   ·obtain rfl : k = m := by omega
    have hfull : A.take k = A := List.take_of_length_le (by rw [hm.out]; exact Nat.le_refl _)
    have hsum : Hid (arrE A = if S ≤ 65536 then 0 else 2) := by
     show _ = _
     have h1 := hok.out
     have h2 := hS.out
     rw [hfull] at h1 h2
     rw [hAE2.out, arrs_sum A 65536 (by omega) h1, h2]
    clear hfull
    have s2 : S ≤ 1000000 := by omega
    clear s1
    by_cases hs : 65536 < S
    ·have hE : Hid (formE A L C = 2) := by show _ = _; have h2 : arrE A = 2 := hsum.out.trans (if_neg (by omega)); rw [hF.out, h2]; exact if_pos (by decide)
     go_wp2_with fail
     go_ret
     exact ⟨ret_int hE.out.symm, X0⟩
    ·have hF2 : Hid (formE A L C = if L < 0 ∨ 16 < L then 2 else if 1024 < n then 6 else codE C) := by show _ = _; have h2 : arrE A = 0 := hsum.out.trans (if_pos (by omega)); rw [hF.out, h2]; exact if_neg (by simp)
     by_cases hL : L < 0 ∨ 16 < L
     ·have hE : Hid (formE A L C = 2) := by show _ = _; rw [hF2.out, if_pos hL]
      rcases hL with hL | hL
      ·go_wp2_with fail
       go_ret
       exact ⟨ret_int hE.out.symm, X0⟩
      ·have hL' : ¬ L < 0 := by omega
       go_wp2_with fail
       go_ret
       exact ⟨ret_int hE.out.symm, X0⟩
     ·have hF3 : Hid (formE A L C = if 1024 < n then 6 else codE C) := by show _ = _; rw [hF2.out, if_neg hL]
      have hL2 : 0 ≤ L := by omega
      have hL3 : L ≤ 16 := by omega
      clear hL
      by_cases hb : 1024 < n
      ·have hE : Hid (formE A L C = 6) := by show _ = _; rw [hF3.out, if_pos hb]
       go_wp2_with fail
       go_ret
       exact ⟨ret_int hE.out.symm, X0⟩
      ·have hE2 : Hid (formE A L C = codE C) := by show _ = _; rw [hF3.out, if_neg hb]
       go_wp2_with fail
       clear p0 p1 p2
       replace HB := hidden HB
       go_loopw [5] (fun i wr => ∃ (j : Nat), j ≤ n ∧ i = .int .i64 (j : Int) ∧ Hid (codE C = codE (C.drop j)) ∧ Hid (Blk wr w.heap.size 25 [.slice aa k ca, .int .i64 L, .slice ac n cc]) ∧ Ext w wr) (fun i _ => n - (intOf i).toNat)
       case atStart => exact ⟨0, by omega, rfl, rfl, HB, X0⟩
       case round =>
        obtain ⟨j, hj, rfl, hl, BB, hX⟩ := hrel
        have p2 := BB.out.cell 2 _ rfl
        by_cases hlt2 : j < n
        ·obtain ⟨b, off, rfl, -, -⟩ := RC.out.cells (by omega)
         obtain ⟨x, hx, hxm⟩ := at_lt C (k := j) (by rw [hn.out]; exact hlt2)
         obtain ⟨⟨x0, x1⟩, x2, x3⟩ := hC.out x hxm
         obtain ⟨c0, c1⟩ := rd2_at cI_len RC.out j x hx _ _ rfl
         have hdr := drop_at hx
         obtain ⟨op, arg⟩ := x
         simp only at x0 x1 x2 x3 c0 c1
         have d0 := hX.cell c0
         have d1 := hX.cell c1
         clear c0 c1
         have hck2 := hck.out op arg x2 x3
         obtain ⟨q, hq⟩ := ex (chkI op arg)
         rw [hq] at hck2
         replace hdr := hidden hdr
         replace hx := hidden hx
         replace hxm := hidden hxm
         replace hck2 := hidden hck2
         replace hq := hidden hq
         go_wp2_with fail
         refine (hck2.out _).mono ?_
         rintro e w2 ⟨rfl, g2⟩
         have hX2 := hX.trans g2
         by_cases hq0 : q = 0
         ·subst hq0
          go_wp2_with fail
          go_round
          case rel => exact ⟨j + 1, by omega, by go_num, by show _ = _; rw [hl.out, hdr.out]; exact if_neg (by simp [hq.out]), BB.out.ext g2, hX2⟩
          case measure => simp [intOf]; omega
         ·have hq1 : (q != 0) = true := by simp [hq0]
          go_wp2_with fail
          go_ret
          exact ⟨ret_int (by rw [hE2.out, hl.out, hdr.out]; exact ((if_pos (by rw [hq.out]; exact hq0)).trans hq.out).symm), hX2⟩
        ·obtain rfl : j = n := by omega
         have hE3 : Hid (codE C = 0) := by show _ = _; rw [hl.out, List.drop_of_length_le (by rw [hn.out]; exact Nat.le_refl _)]; rfl
         go_wp2_with fail
         go_ret
         exact ⟨ret_int (hE2.out.trans hE3.out).symm, hX⟩
end Go.Proofs.YtgjjklajipekdaaGreat
