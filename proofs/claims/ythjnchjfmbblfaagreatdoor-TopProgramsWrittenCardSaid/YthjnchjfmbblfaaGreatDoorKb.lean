/- Int of package wire. -/
import Derived.Test.YthjnchjfmbblfaaGreatDoorJk
import Derived.Test.YthjnchjfmbblfaaGreatDoorJz
import Derived.Test.YthjnchjfmbblfaaGreatDoorShelf
import Derived.Test.YthjnchjfmbblfaaGreatDoorMz
import Derived.Outline
import Derived.Deep.QuietTactic
import Derived.BigQuiet
namespace Go.Proofs.YthjnchjfmbblfaaGreatDoor
open Go.RowKit
set_option linter.unusedVariables false
attribute [local go_sem ↓] Go.wp_at_zero Go.wp_at_succ

def RdPost (w : World) (r : Int × Int × List Int) (x : Ending) (w' : World) : Prop :=
  ∃ v', x = .returned (.tuple #[.int .i64 r.2.1, v', .int .i64 r.1]) ∧ Own8 w' w.heap.size v' r.2.2 ∧ Ext w w'

theorem wint_nil (v : Value) (w : World) (h : Rd8 w v []) : Calls Tryz.prog 42 #[v] w (RdPost w (wrd [])) := by
  obtain ⟨a, cap, rfl, h1, h2, h3⟩ := Rd.shape h
  rw [show wrd [] = (9, 0, []) from rfl]
  go_enter Tryz.func42, Tryz.ntmps42
  go_wp2_with fail
  go_ret3
  exact ⟨_, rfl, World.ownsRow_nil _ _ _ _, Ext.refl _⟩

theorem xor_max : (List.range 256).all (fun x => decide (bits .xor .u8 IntKind.u8.max (x : Int) = 255 - (x : Int))) = true := by decide +kernel
theorem xor_not (x : Int) (h0 : 0 ≤ x) (h1 : x ≤ 255) : bits .xor .u8 IntKind.u8.max x = 255 - x := by
  obtain ⟨n, rfl⟩ := Int.eq_ofNat_of_zero_le h0
  exact of_decide_eq_true (List.all_eq_true.1 xor_max n (by simp; omega))
theorem lz_call (x : Int) (h0 : 0 ≤ x) (h1 : x ≤ 255) (k : Nat) (hk : ones x = k) (w : World) :
    Calls Tryz.prog 65 #[.int .u8 (bits .xor .u8 IntKind.u8.max x)] w fun e w' => e = .returned (.int .i64 (k : Int)) ∧ w = w' := by
  rw [xor_not x h0 h1]
  refine (Tryz.bits_LeadingZeros8 (255 - x) w (by omega) (by omega)).mono ?_
  rintro e w' ⟨rfl, rfl⟩
  exact ⟨ret_int (by rw [ones_bl x h0 h1, hk]), rfl⟩

set_option maxHeartbeats 1000000 in
theorem wint_good (v : Value) (S : List Int) (x : Int) (r : List Int) (hS : S = x :: r) (k n : Nat) (hb : Bytes S) (hr : S.length = n) (hn : n ≤ 900000) (hk : ones x = k) (h7 : k ≤ 7) (hl : k < n) (w : World) (h : Rd8 w v S) : Calls Tryz.prog 42 #[v] w (RdPost w (wrd S)) := by
  obtain ⟨hx0, hx1⟩ := hb x (by rw [hS]; simp)
  obtain ⟨a, cap, rfl, h1, h2, h3⟩ := Rd.shape h
  obtain ⟨b, off, rfl, hblt⟩ := Rd8.some h (by omega)
  have hc := Rd8.at h 0 (by omega)
  simp [hS] at hc
  have hlz := lz_call x hx0 hx1 k hk
  have hfb := first_bits x hx0 hx1 k hk h7
  rw [hr] at h h1 ⊢
  have hR : Rd w 1 (.slice (some ⟨b, off, none⟩) n cap) n (bs S) := by
    have g := h
    unfold Rd8 at g
    rw [hr] at g
    exact g
  obtain ⟨a1, c1, hrun1, R1⟩ := cut_lh (P := Tryz.prog) (t := 36) Tryz.underlying36 Tryz.sizeOf5 hR 1 (k + 1) 1 ((k : Int) + 1) rfl (by omega) (by omega) (by omega)
  obtain ⟨a2, c2, hrun2, R2, -⟩ := cut_l (P := Tryz.prog) (t := 36) Tryz.underlying36 Tryz.sizeOf5 hR (k + 1) ((k : Int) + 1) (by omega) (by omega)
  simp only [Nat.add_sub_cancel] at hrun1 R1
  have H := hidden h
  have Hr := hidden hr
  obtain ⟨T, hT⟩ : ∃ T, (S.drop 1).take k = T := ⟨_, rfl⟩
  have hbT : List.take (k * 1) (List.drop (1 * 1) (bs S)) = bs T := by rw [← hT]; simp [bs, List.map_take]
  rw [hbT] at R1
  have hTl : T.length = k := by rw [← hT]; simp; omega
  have hTb : Bytes T := fun z hz => hb z (by rw [← hT] at hz; exact List.mem_of_mem_drop (List.mem_of_mem_take hz))
  obtain ⟨f0, hf0⟩ : ∃ f0, first x k = f0 := ⟨_, rfl⟩
  have f0b := first_bd x k
  have HT48 : Hid (∀ j, j < k → 0 ≤ grow f0 (T.take j) ∧ grow f0 (T.take j) < 281474976710656) := fun j hj => by
    rw [← hf0]
    exact grow_48 x k h7 _ (fun z hz => hTb z (List.mem_of_mem_take hz)) (by rw [List.length_take]; omega)
  have HT56 : Hid (0 ≤ grow f0 T ∧ grow f0 T < 72057594037927936) := by
    rw [← hf0]
    exact grow_56 x k h7 _ hTb (by omega)
  have HTc : Hid (∀ j, j < k → ∃ y, 0 ≤ y ∧ y ≤ 255 ∧ (bs T).getD j undef = .int .u8 y ∧ T.take (j + 1) = T.take j ++ [y]) := fun j hj => by
    have hj' : j < T.length := by omega
    have hz := hTb _ (List.getElem_mem hj')
    exact ⟨T[j], hz.1, hz.2, by simp [bs, List.getD, hj'], List.take_succ_eq_append_getElem hj'⟩
  have hp2 : (2 : Int) ^ (7 - k) ≤ 128 := by
    have : 2 ^ (7 - k) ≤ 2 ^ 7 := Nat.pow_le_pow_right (by decide) (by omega)
    exact_mod_cast this
  rw [hf0] at hfb f0b
  obtain ⟨f1, f2⟩ := f0b
  have f3 : f0 < 128 := by omega
  replace hf0 := hidden hf0
  replace hT := hidden hT
  replace hTl := hidden hTl
  replace hTb := hidden hTb
  clear f2 hp2 hbT
  replace R1 := hidden R1
  replace R2 := hidden R2
  replace hrun2 := hidden hrun2
  have HS := hidden hS
  have Hk := hidden hk
  replace hlz := hidden hlz
  clear h hR hr hS hk hb
  go_enter Tryz.func42, Tryz.ntmps42
  go_wp2_with fail
  refine (hlz.out _).mono ?_
  rintro e w1 ⟨rfl, rfl⟩
  go_wp2_with fail
  go_quiet (fail)
  go_wp2_with fail
  go_loop [6, 35] (fun t i => ∃ (j : Nat) (g : Int), j ≤ k ∧ i = .int .i64 (j : Int) ∧ t = .int .i64 g ∧ Hid (g = grow f0 (T.take j))) (fun _ i => k - (intOf i).toNat)
  case atStart => exact ⟨0, f0, by omega, rfl, rfl, rfl⟩
  case round =>
    obtain ⟨j, g, hj, rfl, rfl, hg⟩ := hrel
    by_cases hlt : j < k
    · obtain ⟨g0, g1⟩ := HT48.out j hlt
      rw [← hg.out] at g0 g1
      obtain ⟨b1, o1, rfl, -, hcells⟩ := R1.out.cells (by omega)
      obtain ⟨y, y0, y1, hcy, hy⟩ := HTc.out j hlt
      have hcj := hcells j (by rw [R1.out.len]; omega)
      rw [hcy] at hcj
      clear hcells hcy
      replace hg := hidden hg.out
      replace hy := hidden hy
      go_wp2_with fail
      go_round
      case rel =>
        refine ⟨j + 1, 256 * g + y, by omega, by go_num, by rw [or_grow g y g0 g1 y0 y1], ?_⟩
        show 256 * g + y = _
        rw [hy.out, grow_snoc, ← hg.out]
      case measure => simp [intOf]; omega
    · obtain rfl : j = k := by omega
      have hgT : g = grow f0 T := by rw [hg.out, List.take_of_length_le (by rw [hTl.out]; exact Nat.le_refl _)]
      have hb := HT56.out
      rw [← hgT] at hb
      obtain ⟨g0, g1⟩ := hb
      have hgr : grow (first x j) (r.take j) = g := by rw [hgT, hf0.out, ← hT.out, HS.out]; rfl
      have hrl : j ≤ r.length := by
        have := Hr.out
        rw [HS.out] at this
        simp at this
        omega
      replace hgr := hidden hgr
      clear hg hgT
      by_cases hbig : 9007199254740991 < g
      · have hE : Hid (wrd S = (3, 0, [])) := by show wrd S = _; rw [HS.out]; exact wrd_form x r j Hk.out h7 hrl g hgr.out (Or.inl hbig)
        go_wp2_with fail
        go_ret3
        show RdPost w (wrd S) _ _
        rw [hE.out]
        exact ⟨_, rfl, World.ownsRow_nil _ _ _ _, (Ext.refl _).drewN _⟩
      · have hfu := fun w => wfurther_any g g0 (by omega) w
        obtain ⟨q, hq⟩ : ∃ q, fur g = q := ⟨_, rfl⟩
        rw [hq] at hfu
        replace hq := hidden hq
        replace hfu := hidden hfu
        by_cases hqk : q = j
        · subst hqk
          have hE : Hid (wrd S = (0, g, r.drop q)) := by show wrd S = _; rw [HS.out]; exact wrd_good x r q Hk.out h7 hrl g hgr.out (by rw [hq.out]; omega)
          go_wp2_with fail
          refine (hfu.out _).mono ?_
          rintro e w1 ⟨rfl, rfl⟩
          replace hrun2 := hrun2.out
          go_wp2_with fail
          have hlr : (S.drop (q + 1)).length = n - (q + 1) := by rw [List.length_drop, Hr.out]
          have hrd : S.drop (q + 1) = r.drop q := by rw [HS.out]; rfl
          have R2' : Rd8 (w.drewN nq) (.slice a2 (n - (q + 1)) c2) (r.drop q) := by
            rw [← hrd]
            unfold Rd8
            rw [hlr, show bs (S.drop (q + 1)) = (bs S).drop ((q + 1) * 1) by simp [bs]]
            exact Rd.ext R2.out ((Ext.refl w).drewN nq)
          refine (clone_any _ (r.drop q) (by rw [← hrd, hlr]; omega) _ R2').mono ?_
          rintro e w1 ⟨v1, rfl, hO, g1⟩
          go_wp2_with fail
          go_ret3
          show RdPost w (wrd S) _ _
          rw [hE.out]
          exact ⟨_, rfl, hO, ((Ext.refl w).drewN nq).trans g1⟩
        · have hE : Hid (wrd S = (3, 0, [])) := by show wrd S = _; rw [HS.out]; exact wrd_form x r j Hk.out h7 hrl g hgr.out (Or.inr (by rw [hq.out]; exact hqk))
          have hqk' : ((q : Int) != (j : Int)) = true := by simp; omega
          go_wp2_with fail
          refine (hfu.out _).mono ?_
          rintro e w1 ⟨rfl, rfl⟩
          go_wp2_with fail
          go_ret3
          show RdPost w (wrd S) _ _
          rw [hE.out]
          exact ⟨_, rfl, World.ownsRow_nil _ _ _ _, (Ext.refl _).drewN _⟩
set_option maxHeartbeats 1000000 in
theorem wint_bad8 (v : Value) (S : List Int) (x : Int) (r : List Int) (hS : S = x :: r) (n : Nat) (hb : Bytes S) (hr : S.length = n) (hn : n ≤ 900000) (hk : 7 < ones x) (w : World) (h : Rd8 w v S) : Calls Tryz.prog 42 #[v] w (RdPost w (wrd S)) := by
  have hE : wrd S = (3, 0, []) := by rw [hS]; exact wrd_bad8 x r hk
  rw [hE]
  obtain ⟨hx0, hx1⟩ := hb x (by rw [hS]; simp)
  obtain ⟨a, cap, rfl, h1, h2, h3⟩ := Rd.shape h
  obtain ⟨b, off, rfl, hblt⟩ := Rd8.some h (by rw [hS]; simp)
  have hc := Rd8.at h 0 (by rw [hS]; simp)
  simp [hS] at hc
  have h0 : 0 < n := by rw [← hr, hS]; simp
  obtain ⟨k, hk'⟩ : ∃ k, ones x = k := ⟨_, rfl⟩
  have hlz := lz_call x hx0 hx1 k hk'
  rw [hk'] at hk
  have hk8 : (7 : Int) < (k : Int) := by omega
  rw [hr] at h h1 ⊢
  replace hlz := hidden hlz
  clear h hr hS hb hE hk' hk
  go_enter Tryz.func42, Tryz.ntmps42
  go_wp2_with fail
  refine (hlz.out _).mono ?_
  rintro e w1 ⟨rfl, rfl⟩
  go_wp2_with fail
  go_ret3
  exact ⟨_, rfl, World.ownsRow_nil _ _ _ _, Ext.refl _⟩
set_option maxHeartbeats 1000000 in
theorem wint_torn (v : Value) (S : List Int) (x : Int) (r : List Int) (hS : S = x :: r) (k n : Nat) (hb : Bytes S) (hr : S.length = n) (hn : n ≤ 900000) (hk : ones x = k) (h7 : k ≤ 7) (hl : n ≤ k) (w : World) (h : Rd8 w v S) : Calls Tryz.prog 42 #[v] w (RdPost w (wrd S)) := by
  have hE : wrd S = (9, 0, []) := by
    rw [hS]
    refine wrd_torn x r (by omega) ?_
    rw [hS] at hr
    simp at hr
    omega
  rw [hE]
  obtain ⟨hx0, hx1⟩ := hb x (by rw [hS]; simp)
  obtain ⟨a, cap, rfl, h1, h2, h3⟩ := Rd.shape h
  obtain ⟨b, off, rfl, hblt⟩ := Rd8.some h (by rw [hS]; simp)
  have hc := Rd8.at h 0 (by rw [hS]; simp)
  simp [hS] at hc
  have h0 : 0 < n := by rw [← hr, hS]; simp
  have hlz := lz_call x hx0 hx1 k hk
  rw [hr] at h h1 ⊢
  replace hlz := hidden hlz
  clear h hr hS hb hE hk
  go_enter Tryz.func42, Tryz.ntmps42
  go_wp2_with fail
  refine (hlz.out _).mono ?_
  rintro e w1 ⟨rfl, rfl⟩
  go_wp2_with fail
  go_ret3
  exact ⟨_, rfl, World.ownsRow_nil _ _ _ _, Ext.refl _⟩
theorem wint_any (v : Value) (S : List Int) (hb : Bytes S) (hn : S.length ≤ 900000) (w : World) (h : Rd8 w v S) : Calls Tryz.prog 42 #[v] w (RdPost w (wrd S)) := by
  match S, hb, hn, h with
  | [], _, _, h => exact wint_nil v w h
  | x :: r, hb, hn, h =>
    by_cases h7 : ones x ≤ 7
    · by_cases hl : ones x < (x :: r).length
      · exact wint_good v _ x r rfl _ _ hb rfl hn rfl h7 hl w h
      · exact wint_torn v _ x r rfl _ _ hb rfl hn rfl h7 (by omega) w h
    · exact wint_bad8 v _ x r rfl _ hb rfl hn (by omega) w h
end Go.Proofs.YthjnchjfmbblfaaGreatDoor

/- The reference of layer 2: PutInt, rest. -/
namespace Go.Proofs.YthjnchjfmbblfaaGreatDoor
open Go.RowKit
set_option linter.unusedVariables false
attribute [local go_sem ↓] Go.wp_at_zero Go.wp_at_succ

theorem wtail_snoc (m : Int) (k j : Nat) (hj : j < k) : (wtail m k).take (j + 1) = (wtail m k).take j ++ [m / 2 ^ (8 * (k - 1 - j)) % 256] := by
  induction k generalizing j with
  | zero => omega
  | succ k ih =>
    cases j with
    | zero => simp [wtail]
    | succ j =>
      show (_ :: _).take (j + 1 + 1) = (_ :: _).take (j + 1) ++ _
      rw [List.take_succ_cons, List.take_succ_cons, ih j (by omega)]
      rw [show k + 1 - 1 - (j + 1) = k - 1 - j by omega]
      rfl
end Go.Proofs.YthjnchjfmbblfaaGreatDoor

/- The reference of layer 2: Int. -/
namespace Go.Proofs.YthjnchjfmbblfaaGreatDoor
open Go.RowKit
set_option linter.unusedVariables false
attribute [local go_sem ↓] Go.wp_at_zero Go.wp_at_succ

theorem ones_cmp : (List.range 255).all (fun x => (List.range 8).all fun k => decide (256 - (2 : Int) ^ (7 - k) ≤ (x : Int)) == decide (k < ones (x : Int))) = true := by decide +kernel
theorem ones_le (x : Int) (h0 : 0 ≤ x) (h1 : x < 255) (k : Nat) (h7 : k ≤ 7) : 256 - (2 : Int) ^ (7 - k) ≤ x ↔ k < ones x := by
  obtain ⟨n, rfl⟩ := Int.eq_ofNat_of_zero_le h0
  have h := List.all_eq_true.1 (List.all_eq_true.1 ones_cmp n (by simp; omega)) k (by simp; omega)
  simp only [beq_iff_eq, decide_eq_decide] at h
  exact h
theorem ones_255 : (List.range 256).all (fun x => decide ((7 < ones (x : Int)) ↔ x = 255)) = true := by decide +kernel
theorem ones_8_iff (x : Int) (h0 : 0 ≤ x) (h1 : x ≤ 255) : 7 < ones x ↔ x = 255 := by
  obtain ⟨n, rfl⟩ := Int.eq_ofNat_of_zero_le h0
  have h := of_decide_eq_true (List.all_eq_true.1 ones_255 n (by simp; omega))
  rw [h]; omega
theorem first_sub : (List.range 256).all (fun x => (List.range 8).all fun k => decide (ones (x : Int) ≠ k ∨ (x : Int) - (256 - 2 ^ (8 - k)) = first x k)) = true := by decide +kernel
theorem first_is (x : Int) (h0 : 0 ≤ x) (h1 : x ≤ 255) (k : Nat) (hk : ones x = k) (h7 : k ≤ 7) : x - (256 - 2 ^ (8 - k)) = first x k := by
  obtain ⟨n, rfl⟩ := Int.eq_ofNat_of_zero_le h0
  have h := List.all_eq_true.1 (List.all_eq_true.1 first_sub n (by simp; omega)) k (by simp; omega)
  rcases of_decide_eq_true h with h | h
  · exact absurd hk h
  · exact h
end Go.Proofs.YthjnchjfmbblfaaGreatDoor
