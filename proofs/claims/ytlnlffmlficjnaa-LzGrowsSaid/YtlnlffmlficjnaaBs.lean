/- The law BitsCodes: the walk. -/
import Derived.Test.YtlnlffmlficjnaaBm
import Derived.Test.YtlnlffmlficjnaaBl
import Derived.Sort.CutIn
namespace Go.Proofs.Ytlnlffmlficjnaa
open Go.RowKit
set_option linter.unusedVariables false
attribute [local go_sem ↓] Go.wp_at_zero Go.wp_at_succ

def u32s (l : List Int) : List Value := l.map (Value.int .u32)
def RdU (w : World) (v : Value) (l : List Int) : Prop := Rd w 1 v l.length (u32s l)
theorem RdU.at {w : World} {b off n cap : Nat} {l : List Int} (h : RdU w (.slice (some ⟨b, off, none⟩) n cap) l) (i : Nat) (hi : i < l.length) : w.cell? ⟨b, off + i, none⟩ = some (.int .u32 (l.getD i 0)) := by
  obtain ⟨_, a', cap', h2, _, _, _, h6⟩ := h
  simp only [Value.slice.injEq] at h2
  obtain ⟨rfl, -, rfl⟩ := h2
  obtain ⟨b', off', e, -, hc⟩ := h6 (by omega)
  simp only [Option.some.injEq, Addr.mk.injEq, and_true] at e
  obtain ⟨rfl, rfl⟩ := e
  rw [hc i (by simp [u32s]; exact hi)]
  simp [u32s, List.getD, hi]
theorem RdU.some {w : World} {a : Option Addr} {n cap : Nat} {l : List Int} (h : RdU w (.slice a n cap) l) (hn : 0 < l.length) : ∃ b off, a = Option.some ⟨b, off, none⟩ := by
  obtain ⟨_, a', cap', h2, _, _, _, h6⟩ := h
  simp only [Value.slice.injEq] at h2
  obtain ⟨rfl, -, rfl⟩ := h2
  obtain ⟨b', off', e, -, -⟩ := h6 hn
  exact ⟨b', off', e⟩
theorem cAt_bytes (l : List Int) (k : Nat) : Bytes (pshs [] 0 (cAt l k)) := (WF.pshs WF.nil (codes_01 (l.take k))).bytes
theorem cAt_dlen (l : List Int) (k : Nat) (hl : l.length ≤ 20) : (pshs [] 0 (cAt l k)).length ≤ 200 := by
  have h1 := pshs_len WF.nil (codes_01 (l.take k))
  have h2 := cAt_len l k hl
  have h3 : (pshs [] 0 (cAt l k)).length = (0 + (cAt l k).length + 7) / 8 := h1
  omega

end Go.Proofs.Ytlnlffmlficjnaa

/- The program's Slice. -/
namespace Go.Proofs.Ytlnlffmlficjnaa
open Go.RowKit Go.Shelf
set_option linter.unusedVariables false
attribute [local go_sem] Oper.semAt_some

/-- What Slice leaves. -/
def slcF (D : List Int) (c a b : Int) : Int × List Int × Nat :=
  if chkb D c ≠ 0 then (chkb D c, [], 0) else if a < 0 ∨ b < a ∨ c < b then (2, [], 0) else (0, pshs [] 0 (cut D a.toNat (b.toNat - a.toNat)), b.toNat - a.toNat)
theorem own8_grown {W W' : World} {B : Nat} {v : Value} {l : List Int} {row : Option Nat} (h : Own8 W B v l) (hg : W.grownBy W' row) (hrow : ∀ r, row = some r → ∃ o, W.heap[r]? = some o ∧ o.isCells = false) : Own8 W' B v l := by
  obtain ⟨h1, h | ⟨g, cap, cur, h2, h3, h4, h5⟩⟩ := h
  · exact ⟨h1, .inl h⟩
  · refine ⟨h1, .inr ⟨g, cap, cur, h2, h3, ?_, h5⟩⟩
    rw [hg.block g (Array.getElem?_eq_some_iff.1 h4).1 (fun e' => by obtain ⟨o, ho, hc⟩ := hrow g e'.symm; rw [h4] at ho; cases ho; cases hc)]
    exact h4
theorem tape_own (pt B : Nat) (D : List Int) (c : Nat) : Own (fun (s : List Bool) W => ∃ v', Tape W pt B v' (pshs D c (s.map b2i)) (c + s.length)) := fun s X Y row hs hg hrow => by
  obtain ⟨v', h1, h2, h3⟩ := hs
  exact ⟨v', blk_own (β := Unit) _ _ _ () X Y row h1 hg hrow, own8_grown h2 hg hrow, h3⟩
theorem size_own {β : Type} (n : Nat) : Own (fun (_ : β) W => n ≤ W.heap.size) := fun s X Y row hs hg hrow => Nat.le_trans hs hg.size
theorem Chg.keeps {S : List Nat} {W W' : World} (h : Chg S W W') (hS : ∀ x ∈ S, ∀ o, W.heap[x]? = some o → o.isCells = true) : KeepsOthers W W' :=
  ⟨h.size, fun k o hk ho => by
    by_cases hm : k ∈ S
    · have := hS k hm o hk
      rw [this] at ho; cases ho
    · rw [h.block k (Array.getElem?_eq_some_iff.1 hk).1 hm]; exact hk⟩
theorem Tape.cells {W : World} {p B c : Nat} {v : Value} {D : List Int} (h : Tape W p B v D c) : ∀ x ∈ (p :: v.ownBlock.toList), ∀ o, W.heap[x]? = some o → o.isCells = true := by
  intro x hx o ho
  rcases List.mem_cons.1 hx with rfl | hx
  · have hb : W.heap[x]? = some (.cells _ _ (0, 0)) := h.blk
    rw [hb] at ho; cases ho; rfl
  · obtain ⟨h1, ⟨rfl, -⟩ | ⟨g, cap, cur, rfl, h3, h4, h5⟩⟩ := h.own
    · simp [Value.ownBlock] at hx
    · simp [Value.ownBlock] at hx
      subst hx
      rw [h4] at ho; cases ho; rfl
theorem Tape.past {W : World} {p B c : Nat} {v : Value} {D : List Int} (h : Tape W p B v D c) : ∀ x, x < B → x ≠ p → x ∉ (p :: v.ownBlock.toList) := by
  intro x hB hp hx
  rcases List.mem_cons.1 hx with rfl | hx
  · exact hp rfl
  · obtain ⟨h1, ⟨rfl, -⟩ | ⟨g, cap, cur, rfl, h3, h4, h5⟩⟩ := h.own
    · simp [Value.ownBlock] at hx
    · simp [Value.ownBlock] at hx
      omega
theorem own8_nil (W : World) (B : Nat) : Own8 W B (.slice none 0 0) [] := ⟨rfl, .inl ⟨rfl, rfl⟩⟩
theorem Chg.below {S : List Nat} {n : Nat} {W W' : World} (h : Chg S W W') (hS : ∀ x ∈ S, n ≤ x) (hn : n ≤ W.heap.size) : Below n W W' := by
  refine ⟨h.os, h.tape, h.output, h.size, fun k hk => h.block k (by omega) (fun hm => by have := hS k hm; omega)⟩
theorem blk_calc {W : World} {p : Nat} {t : TypeId} {cs : List Value} (h : W.heap[p]? = some (.cells cs.toArray t (0, 0))) : Blk W p t cs := h

end Go.Proofs.Ytlnlffmlficjnaa

/- The law BitsPrefixes: the plain part and the walk. -/
namespace Go.Proofs.Ytlnlffmlficjnaa
open Go.RowKit
set_option linter.unusedVariables false
attribute [local go_sem ↓] Go.wp_at_zero Go.wp_at_succ

theorem gb_psh0 (X : List Int) (hX : Bits01 X) (i : Nat) : gb (pshs [] 0 X) i = X.getD i 0 := by
  rw [gb_pshs WF.nil hX]
  simp
theorem gam_prefix (n m : Int) (hn0 : 1 ≤ n) (hn1 : n ≤ 2147483647) (hm0 : 1 ≤ m) (hm1 : m ≤ 2147483647) (hle : (gam n).length ≤ (gam m).length)
    (heq : ∀ j, j < (gam n).length → (gam m).getD j 0 = (gam n).getD j 0) : n = m := by
  obtain ⟨a, ha, ha2⟩ := len_ex n hn0 hn1
  obtain ⟨b, hb, hb2⟩ := len_ex m hm0 hm1
  have la := gam_len n a ha
  have lb := gam_len m b hb
  have r1 := rg_reads (gam m) (gam_01 m) (by omega) 0 n hn0 hn1 a ha ha2 (fun j hj => by rw [Nat.zero_add]; exact heq j (by omega)) (by omega)
  have r2 := rg_reads (gam m) (gam_01 m) (by omega) 0 m hm0 hm1 b hb hb2 (fun j hj => by rw [Nat.zero_add]) (by omega)
  rw [r1] at r2
  simp only [Prod.mk.injEq] at r2
  exact r2.2.1
theorem pshs_inj (X Y : List Int) (hX : Bits01 X) (hY : Bits01 Y) (h : pshs [] 0 X = pshs [] 0 Y) (i : Nat) : X.getD i 0 = Y.getD i 0 := by
  rw [← gb_psh0 X hX, ← gb_psh0 Y hY, h]
/-- What Gamma leaves of a small number, from nothing. -/
theorem gamF_nil (n : Int) (h0 : 1 ≤ n) (h1 : n ≤ 2147483647) : gamF [] 0 n = (0, pshs [] 0 (gam n), (gam n).length) := by
  obtain ⟨a, ha, ha2⟩ := len_ex n h0 h1
  unfold gamF
  rw [if_neg (by decide), if_neg (by omega), if_neg (by omega), gam_len n a ha, ha]
  simp
  omega
theorem pre_same (n m : Int) (hn0 : 1 ≤ n) (hn1 : n ≤ 2147483647) (hm0 : 1 ≤ m) (hm1 : m ≤ 2147483647) (k : Nat) (hk : k = min (gam n).length (gam m).length)
    (h : pshs [] 0 (cut (pshs [] 0 (gam n)) 0 k) = pshs [] 0 (cut (pshs [] 0 (gam m)) 0 k)) : n = m := by
  have key : ∀ j, j < k → (gam n).getD j 0 = (gam m).getD j 0 := by
    intro j hj
    have e := pshs_inj _ _ (cut_01 _ 0 k) (cut_01 _ 0 k) h j
    rw [cut_get _ 0 k j hj, cut_get _ 0 k j hj, gb_psh0 _ (gam_01 n), gb_psh0 _ (gam_01 m), Nat.zero_add] at e
    exact e
  rcases Nat.le_total (gam n).length (gam m).length with hl | hl
  · exact gam_prefix n m hn0 hn1 hm0 hm1 hl (fun j hj => (key j (by omega)).symm)
  · exact (gam_prefix m n hm0 hm1 hn0 hn1 hl (fun j hj => key j (by omega))).symm
theorem gam_wf (n : Int) : WF (pshs [] 0 (gam n)) (gam n).length := by
  have := WF.pshs WF.nil (gam_01 n)
  rwa [Nat.zero_add] at this

end Go.Proofs.Ytlnlffmlficjnaa

/- The reference's Few, get, Check. -/
namespace Go.Proofs.Ytlnlffmlficjnaa
open Go.RowKit
set_option linter.unusedVariables false
attribute [local go_sem ↓] Go.wp_at_zero Go.wp_at_succ

theorem and1_tab : ∀ (i : Fin 256), bits BinOp.and IntKind.i64 (i.val : Int) 1 = (i.val : Int) % 2 := by decide +kernel
theorem i64_and1 (y : Int) (h0 : 0 ≤ y) (h1 : y ≤ 255) : bits BinOp.and IntKind.i64 y 1 = y % 2 := by
  obtain ⟨i, rfl⟩ := byte_of y h0 h1
  exact and1_tab i

set_option maxHeartbeats 1000000 in
theorem get_any (v : Value) (c : Int) (D : List Int) (k : Nat) (hb : Bytes D) (hk2 : k ≤ 600000) (hin : k / 8 < D.length) (w : World) (h : Rd8 w v D) :
    Calls Try.prog 60 #[.agg #[v, .int .i64 c], .int .i64 (k : Int)] w fun e w' => e = .returned (.int .i64 (gb D k)) ∧ Ext w w' := by
  obtain ⟨a, cap, rfl, h1, h2, h3⟩ := Rd.shape h
  have C0 := Blk.new w [.slice a D.length cap, .int .i64 c] 57
  have c0 := C0.cell 0 _ rfl
  obtain ⟨b, off, rfl, -⟩ := Rd8.some h (by omega)
  have hx := getD_bd8 hb (k / 8)
  have hcx := Rd8.at (Rd.alloc h (.cells #[.slice (some ⟨b, off, none⟩) D.length cap, .int .i64 c] 57)) (k / 8) hin
  have hg : Hid (gb D k = D.getD (k / 8) 0 / 2 ^ (7 - k % 8) % 2) := hidden rfl
  obtain ⟨x, hx'⟩ : ∃ x, D.getD (k / 8) 0 = x := ⟨_, rfl⟩
  rw [hx'] at hx hcx hg
  clear hx' h
  obtain ⟨hx0, hx1⟩ := hx
  have e1 : ((k : Int) / 8).toNat = k / 8 := by omega
  have e2 : (0 : Int) ≤ (k : Int) / 8 := by omega
  have e3 : (k : Int) / 8 < (D.length : Int) := by omega
  have e4 : (7 - (k : Int) % 8).toNat = 7 - k % 8 := by omega
  have e5 : (0 : Int) ≤ 7 - (k : Int) % 8 := by omega
  have e6 : (7 - (k : Int) % 8) ≤ 7 := by omega
  have hdb : 0 ≤ x / 2 ^ (7 - k % 8) ∧ x / 2 ^ (7 - k % 8) ≤ 255 := ⟨Int.ediv_nonneg hx0 (Int.le_of_lt (pow2_pos _)), by have := Int.ediv_le_self (2 ^ (7 - k % 8)) hx0; omega⟩
  have hfin := i64_and1 _ hdb.1 hdb.2
  go_enter Try.func60, Try.ntmps60
  go_wp2_with fail
  go_ret
  exact ⟨ret_int hg.out.symm, (Ext.refl _).alloc _⟩

theorem chkb_bad {D : List Int} {c : Nat} (hb : Bytes D) (hc : c ≤ 524288) (hl : (D.length : Int) = ((c : Int) + 7) / 8) (i : Nat) (h1 : c ≤ i) (h2 : i < 8 * D.length) (h3 : gb D i ≠ 0) : chkb D c = 3 := by
  have hne : chkb D c ≠ 0 := by
    intro e
    obtain ⟨-, -, hwf⟩ := chkb_wf hb e
    exact h3 (hwf.spare i (by simpa using h1) h2)
  unfold chkb at hne ⊢
  rw [if_neg (by omega), if_neg (by simpa using hl)] at hne ⊢
  split
  · rfl
  · next h => rw [if_neg h] at hne; exact absurd rfl hne

set_option maxHeartbeats 1000000 in
theorem rcheck_any (v : Value) (D : List Int) (c : Int) (hb : Bytes D) (hl : D.length ≤ 70000) (hc0 : -9223372036854775808 ≤ c) (hc1 : c ≤ 9223372036854775807) (w : World) (h : Rd8 w v D) :
    Calls Try.prog 53 #[.agg #[v, .int .i64 c]] w fun x w' => x = .returned (.int .i64 (chkb D c)) ∧ Ext w w' := by
  obtain ⟨a, cap, rfl, h1, h2, h3⟩ := Rd.shape h
  have C0 := Blk.new w [.slice a D.length cap, .int .i64 c] 57
  have c0 := C0.cell 0 _ rfl
  have c1 := C0.cell 1 _ rfl
  by_cases k1 : c < 0
  · have hr : Hid (chkb D c = 2) := by unfold chkb; exact if_pos (Or.inl k1)
    go_enter Try.func53, Try.ntmps53
    go_wp2_with fail
    go_ret
    exact ⟨ret_int hr.out.symm, (Ext.refl _).alloc _⟩
  · by_cases k2 : 524288 < c
    · have hr : Hid (chkb D c = 2) := by unfold chkb; exact if_pos (Or.inr k2)
      go_enter Try.func53, Try.ntmps53
      go_wp2_with fail
      go_ret
      exact ⟨ret_int hr.out.symm, (Ext.refl _).alloc _⟩
    · obtain ⟨n, rfl⟩ : ∃ n : Nat, c = (n : Int) := ⟨c.toNat, by omega⟩
      have k4 : n ≤ 524288 := by omega
      by_cases k7 : (D.length : Int) = ((n : Int) + 7) / 8
      · have k8 : ((D.length : Int) != ((n : Int) + 7) / 8) = false := by simp [k7]
        have K7 := hidden k7
        have hE := (Ext.refl w).alloc (.cells #[.slice a D.length cap, .int .i64 (n : Int)] 57)
        clear k7 k1 k2
        go_enter Try.func53, Try.ntmps53
        go_wp2_with fail
        go_loopw [3] (fun i wr => ∃ k : Nat, n ≤ k ∧ k ≤ 8 * D.length ∧ i = .int .i64 (k : Int) ∧ (∀ j, n ≤ j → j < k → gb D j = 0) ∧ Ext (w.alloc (.cells #[.slice a D.length cap, .int .i64 (n : Int)] 57)) wr) (fun i _ => (8 * D.length - intOf i).toNat)
        case atStart => exact ⟨n, by omega, by have := K7.out; omega, rfl, (fun j h1 h2 => by omega), Ext.refl _⟩
        case round =>
          obtain ⟨k, hk1, hk2, rfl, hz, hX⟩ := hrel
          have d0 := hX.cell c0
          have d1 := hX.cell c1
          have Hz := hidden hz
          clear hz
          by_cases hlt : k < 8 * D.length
          · have hlt' : (k : Int) < 8 * (D.length : Int) := by omega
            obtain ⟨z, hg⟩ : ∃ z, gb D k = z := ⟨_, rfl⟩
            have Hg := hidden hg
            have hR := Rd.ext h (hE.trans hX)
            by_cases hz0 : z = 0
            · have hz1 : (z != 0) = false := by simp [hz0]
              have Hz0 := hidden hz0
              clear hg hz0
              go_wp2_with fail
              refine (get_any _ _ D k hb (by omega) (by omega) _ hR).mono ?_
              rw [Hg.out]
              rintro e w5 ⟨rfl, g5⟩
              go_wp2_with fail
              refine ⟨⟨k + 1, by omega, by omega, by go_num, (fun j j1 j2 => ?_), hX.trans g5⟩, by simp [intOf]; omega⟩
              rcases Nat.lt_or_ge j k with hj | hj
              · exact Hz.out j j1 hj
              · obtain rfl : j = k := by omega
                rw [Hg.out, Hz0.out]
            · have hz1 : (z != 0) = true := by simp [hz0]
              have hr : Hid (chkb D n = 3) := hidden (chkb_bad hb k4 K7.out k hk1 hlt (by rw [hg]; exact hz0))
              clear hg hz0
              go_wp2_with fail
              refine (get_any _ _ D k hb (by omega) (by omega) _ hR).mono ?_
              rw [Hg.out]
              rintro e w5 ⟨rfl, g5⟩
              go_wp2_with fail
              go_ret
              exact ⟨ret_int hr.out.symm, (hE.trans hX).trans g5⟩
          · obtain rfl : k = 8 * D.length := by omega
            have hr : Hid (chkb D n = 0) := by
              refine hidden ?_
              have hwf : WF D n := ⟨hb, by have := K7.out; omega, fun i i1 i2 => Hz.out i i1 i2⟩
              exact wf_chkb hwf k4
            have hlt' : ¬ 8 * (D.length : Int) < 8 * (D.length : Int) := by omega
            go_wp2_with fail
            go_ret
            exact ⟨ret_int hr.out.symm, hE.trans hX⟩
      · have k8 : ((D.length : Int) != ((n : Int) + 7) / 8) = true := by simp [k7]
        have hr : Hid (chkb D n = 3) := by unfold chkb; rw [if_neg (by omega), if_pos k7]; trivial
        clear k7 k1 k2
        go_enter Try.func53, Try.ntmps53
        go_wp2_with fail
        go_ret
        exact ⟨ret_int hr.out.symm, (Ext.refl _).alloc _⟩
end Go.Proofs.Ytlnlffmlficjnaa
