/- The reference of layer 2: Int. -/
import Derived.Test.YtchkbidekmaaiaaKa
import Derived.Test.YtchkbidekmaaiaaJm
namespace Go.Proofs.Ytchkbidekmaaiaa
open Go.RowKit
set_option linter.unusedVariables false
attribute [local go_sem ↓] Go.wp_at_zero Go.wp_at_succ

theorem ones_cmp : (List.range 255).all (fun x => (List.range 8).all fun k => decide (256 - (2 : Int) ^ (7 - k) ≤ (x : Int)) == decide (k < ones (x : Int))) = true := by decide +kernel
theorem ones_le (x : Int) (h0 : 0 ≤ x) (h1 : x < 255) (k : Nat) (h7 : k ≤ 7) : 256 - (2 : Int) ^ (7 - k) ≤ x ↔ k < ones x := by
  obtain ⟨n, rfl⟩ := Int.eq_ofNat_of_zero_le h0
  have h := List.all_eq_true.1 (List.all_eq_true.1 ones_cmp n (by simp; omega)) k (by simp; omega)
  simp only [beq_iff_eq, decide_eq_decide] at h
  exact h
theorem ones_255 : (List.range 256).all (fun x => decide ((7 < ones (x : Int)) ↔ x = 255)) = true := by decide +kernel
theorem ones_8_iff (x : Int) (h0 : 0 ≤ x) (h1 : x ≤ 255) : 7 < ones x ↔ x = 255 := by
  obtain ⟨n, rfl⟩ := Int.eq_ofNat_of_zero_le h0
  have h := of_decide_eq_true (List.all_eq_true.1 ones_255 n (by simp; omega))
  rw [h]; omega
theorem first_sub : (List.range 256).all (fun x => (List.range 8).all fun k => decide (ones (x : Int) ≠ k ∨ (x : Int) - (256 - 2 ^ (8 - k)) = first x k)) = true := by decide +kernel
theorem first_is (x : Int) (h0 : 0 ≤ x) (h1 : x ≤ 255) (k : Nat) (hk : ones x = k) (h7 : k ≤ 7) : x - (256 - 2 ^ (8 - k)) = first x k := by
  obtain ⟨n, rfl⟩ := Int.eq_ofNat_of_zero_le h0
  have h := List.all_eq_true.1 (List.all_eq_true.1 first_sub n (by simp; omega)) k (by simp; omega)
  rcases of_decide_eq_true h with h | h
  · exact absurd hk h
  · exact h
theorem rint_nil (v : Value) (w : World) (h : Rd8 w v []) : Calls Try.prog 43 #[v] w (RdPost w (wrd [])) := by
  obtain ⟨a, cap, rfl, h1, h2, h3⟩ := Rd.shape h
  rw [show wrd [] = (9, 0, []) from rfl]
  go_enter Try.func43, Try.ntmps43
  go_wp2_with fail
  go_ret3
  exact ⟨_, rfl, World.ownsRow_nil _ _ _ _, Ext.refl _⟩
theorem rint_bad8 (v : Value) (S : List Int) (x : Int) (r : List Int) (hS : S = x :: r) (n : Nat) (hb : Bytes S) (hr : S.length = n) (hn : n ≤ 900000) (hk : 7 < ones x) (w : World) (h : Rd8 w v S) : Calls Try.prog 43 #[v] w (RdPost w (wrd S)) := by
  have hE : wrd S = (3, 0, []) := by rw [hS]; exact wrd_bad8 x r hk
  rw [hE]
  obtain ⟨hx0, hx1⟩ := hb x (by rw [hS]; simp)
  obtain rfl := (ones_8_iff x hx0 hx1).1 hk
  obtain ⟨a, cap, rfl, h1, h2, h3⟩ := Rd.shape h
  obtain ⟨b, off, rfl, hblt⟩ := Rd8.some h (by rw [hS]; simp)
  have hc := Rd8.at h 0 (by rw [hS]; simp)
  simp [hS] at hc
  have h0 : 0 < n := by rw [← hr, hS]; simp
  rw [hr] at h h1 ⊢
  clear h hr hS hb hE hk
  go_enter Try.func43, Try.ntmps43
  go_wp2_with fail
  go_ret3
  exact ⟨_, rfl, World.ownsRow_nil _ _ _ _, Ext.refl _⟩
set_option maxHeartbeats 2000000 in
set_option maxRecDepth 100000 in
theorem rint_good (v : Value) (S : List Int) (x : Int) (r : List Int) (hS : S = x :: r) (k n : Nat) (hb : Bytes S) (hr : S.length = n) (hn : n ≤ 900000) (hk : ones x = k) (h7 : k ≤ 7) (w : World) (h : Rd8 w v S) : Calls Try.prog 43 #[v] w (RdPost w (wrd S)) := by
  obtain ⟨hx0, hx1⟩ := hb x (by rw [hS]; simp)
  have hx2 : x < 255 := by
    have := (ones_8_iff x hx0 hx1).2
    omega
  have hx3 : (x == 255) = false := by simp; omega
  obtain ⟨a, cap, rfl, h1, h2, h3⟩ := Rd.shape h
  obtain ⟨b, off, rfl, hblt⟩ := Rd8.some h (by rw [hS]; simp)
  have hc := Rd8.at h 0 (by rw [hS]; simp)
  simp [hS] at hc
  have hn0 : 0 < n := by rw [← hr, hS]; simp
  have hn00 : ((n : Int) == 0) = false := by simp; omega
  have hcmp := ones_le x hx0 hx2
  rw [hk] at hcmp
  have hR : Rd w 1 (.slice (some ⟨b, off, none⟩) n cap) n (bs S) := by
    have g := h
    unfold Rd8 at g
    rw [hr] at g
    exact g
  rw [hr] at h h1 ⊢
  have hfi := first_is x hx0 hx1 k hk h7
  have hpw := rpower_any
  replace hpw := hidden hpw
  have H := hidden h
  have Hr := hidden hr
  have HS := hidden hS
  have Hk := hidden hk
  have HR := hidden hR
  have Hb := hidden hb
  replace hcmp := hidden hcmp
  replace hfi := hidden hfi
  clear h hr hS hk hR hb
  go_enter Try.func43, Try.ntmps43
  go_wp2_with fail
  go_loop [6] (fun i => ∃ j : Nat, j ≤ k ∧ i = .int .i64 (j : Int)) (fun i => k - (intOf i).toNat)
  case atStart => exact ⟨0, by omega, rfl⟩
  case round =>
    obtain ⟨j, hj, rfl⟩ := hrel
    have hcj := hcmp.out j (by omega)
    have hpb := pow_62 (7 - j) (by omega)
    go_wp2_with fail
    refine (hpw.out _ (7 - j) (by omega) (by omega) _).mono ?_
    obtain ⟨P, hP⟩ : ∃ P : Int, 2 ^ (7 - j) = P := ⟨_, rfl⟩
    rw [hP] at hcj hpb
    rw [hP]
    replace hP := hidden hP
    rintro e _ ⟨rfl, rfl⟩
    by_cases hlt : j < k
    · have hge : 256 - P ≤ x := by omega
      clear hcj
      go_wp2_with fail
      go_round
      case rel => exact ⟨j + 1, by omega, by go_num⟩
      case measure => simp [intOf]; omega
    · have hge : x < 256 - P := by omega
      obtain rfl : j = k := by omega
      clear hcj
      by_cases hl : j < n
      · have hl' : ¬ (n : Int) < (j : Int) + 1 := by omega
        have hrl : j ≤ r.length := by
          have := Hr.out
          rw [HS.out] at this
          simp at this
          omega
        obtain ⟨T, hT⟩ : ∃ T, r.take j = T := ⟨_, rfl⟩
        have hTl : T.length = j := by rw [← hT, List.length_take]; omega
        have hTb : Bytes T := fun z hz => Hb.out z (by rw [HS.out]; rw [← hT] at hz; exact List.mem_cons_of_mem _ (List.mem_of_mem_take hz))
        have hfi2 := hfi.out
        have f0b := first_bd x j
        have hp2 : (2 : Int) ^ (7 - j) ≤ 128 := by
          have : 2 ^ (7 - j) ≤ 2 ^ 7 := Nat.pow_le_pow_right (by decide) (by omega)
          exact_mod_cast this
        have HT48 : Hid (∀ t, t < j → 0 ≤ grow (first x j) (T.take t) ∧ grow (first x j) (T.take t) < 281474976710656) := fun t ht => grow_48 x j h7 _ (fun z hz => hTb z (List.mem_of_mem_take hz)) (by rw [List.length_take]; omega)
        have HT56 : Hid (0 ≤ grow (first x j) T ∧ grow (first x j) T < 72057594037927936) := grow_56 x j h7 _ hTb (by omega)
        have HTc : Hid (∀ t, t < j → ∃ y, 0 ≤ y ∧ y ≤ 255 ∧ w.cell? ⟨b, off + (t + 1), none⟩ = some (.int .u8 y) ∧ T.take (t + 1) = T.take t ++ [y]) := fun t ht => by
          have ht' : t < T.length := by omega
          have hz := hTb _ (List.getElem_mem ht')
          have hc1 := Rd8.at H.out (t + 1) (by rw [Hr.out]; omega)
          refine ⟨T[t], hz.1, hz.2, ?_, List.take_succ_eq_append_getElem ht'⟩
          rw [hc1]
          congr 2
          have e : T[t] = r[t] := by
            have := List.getElem_take (xs := r) (i := t) (j := j) (h := by rw [hT]; exact ht')
            rw [← this]
            congr 1
            exact hT.symm
          rw [e, HS.out]
          simp only [List.getD_cons_succ]
          simp [List.getD, List.getElem?_eq_getElem (show t < r.length by omega)]
        obtain ⟨f0, hf0⟩ : ∃ f0, first x j = f0 := ⟨_, rfl⟩
        rw [hf0] at hfi2 f0b HT48 HT56
        have hp8 := pow_62 (8 - j) (by omega)
        obtain ⟨P8, hP8⟩ : ∃ P : Int, 2 ^ (8 - j) = P := ⟨_, rfl⟩
        rw [hP8] at hfi2 hp8
        obtain ⟨f1, f2⟩ := f0b
        have f3 : f0 < 128 := by omega
        replace hf0 := hidden hf0
        replace hT := hidden hT
        replace hTl := hidden hTl
        replace hTb := hidden hTb
        replace hP8 := hidden hP8
        have f4 : P8 ≤ 1000 := by omega
        clear f2 hp2
        go_wp2_with fail
        refine (hpw.out _ (8 - j) (by omega) (by omega) _).mono ?_
        rw [hP8.out]
        rintro e _ ⟨rfl, rfl⟩
        go_wp2_with fail
        go_loop [7, 8] (fun u i => ∃ (t : Nat) (g : Int), t ≤ j ∧ i = .int .i64 ((t : Int) + 1) ∧ u = .int .i64 g ∧ Hid (g = grow f0 (T.take t))) (fun _ i => j + 1 - (intOf i).toNat)
        case atStart => exact ⟨0, f0, by omega, rfl, rfl, rfl⟩
        case round =>
          obtain ⟨t, g, ht, rfl, rfl, hg⟩ := hrel
          by_cases hlt2 : t < j
          · obtain ⟨g0, g1⟩ := HT48.out t hlt2
            rw [← hg.out] at g0 g1
            obtain ⟨y, y0, y1, hcy, hy⟩ := HTc.out t hlt2
            replace hg := hidden hg.out
            replace hy := hidden hy
            clear hfi2
            go_wp2_with fail
            go_round
            case rel =>
              refine ⟨t + 1, 256 * g + y, by omega, by go_num, rfl, ?_⟩
              show 256 * g + y = _
              rw [hy.out, grow_snoc, ← hg.out]
            case measure => simp [intOf]; omega
          · obtain rfl : t = j := by omega
            have hgT : g = grow f0 T := by rw [hg.out, List.take_of_length_le (by rw [hTl.out]; exact Nat.le_refl _)]
            have hb := HT56.out
            rw [← hgT] at hb
            obtain ⟨g0, g1⟩ := hb
            have hgr : Hid (grow (first x t) (r.take t) = g) := by show _ = _; rw [hgT, hf0.out, hT.out]
            clear hg hgT hfi2
            by_cases hbig : 9007199254740991 < g
            · have hE : Hid (wrd S = (3, 0, [])) := by show wrd S = _; rw [HS.out]; exact wrd_form x r t Hk.out h7 hrl g hgr.out (Or.inl hbig)
              go_wp2_with fail
              go_ret3
              show RdPost w (wrd S) _ _
              rw [hE.out]
              exact ⟨_, rfl, World.ownsRow_nil _ _ _ _, Ext.refl _⟩
            · have hsz := rsize_any g
              rw [wnum_id g0 (by omega)] at hsz
              obtain ⟨q, hq⟩ : ∃ q, fur g = q := ⟨_, rfl⟩
              rw [hq] at hsz
              replace hq := hidden hq
              replace hsz := hidden hsz
              by_cases hqk : q = t
              · subst hqk
                have hE : Hid (wrd S = (0, g, r.drop q)) := by show wrd S = _; rw [HS.out]; exact wrd_good x r q Hk.out h7 hrl g hgr.out (by rw [hq.out]; omega)
                obtain ⟨a2, c2, hrun2, R2, -⟩ := cut_l (P := Try.prog) (t := 34) Try.underlying34 Try.sizeOf5 HR.out (q + 1) ((q : Int) + 1) (by omega) (by omega)
                replace R2 := hidden R2
                go_wp2_with fail
                refine (hsz.out _).mono ?_
                rintro e w1 ⟨rfl, rfl⟩
                go_wp2_with fail
                have hlr : (S.drop (q + 1)).length = n - (q + 1) := by rw [List.length_drop, Hr.out]
                have hrd : S.drop (q + 1) = r.drop q := by rw [HS.out]; rfl
                have R2' : Rd8 w (.slice a2 (n - (q + 1)) c2) (r.drop q) := by
                  rw [← hrd]
                  unfold Rd8
                  rw [hlr, show bs (S.drop (q + 1)) = (bs S).drop ((q + 1) * 1) by simp [bs]]
                  exact R2.out
                refine (rrest_any _ (r.drop q) (by rw [← hrd, hlr]; omega) _ R2').mono ?_
                rintro e w1 ⟨v1, rfl, hO, g1⟩
                go_wp2_with fail
                go_ret3
                show RdPost w (wrd S) _ _
                rw [hE.out]
                exact ⟨_, rfl, hO, g1⟩
              · have hE : Hid (wrd S = (3, 0, [])) := by show wrd S = _; rw [HS.out]; exact wrd_form x r t Hk.out h7 hrl g hgr.out (Or.inr (by rw [hq.out]; exact hqk))
                have hqk' : ((q : Int) + 1 != (t : Int) + 1) = true := by simp; omega
                go_wp2_with fail
                refine (hsz.out _).mono ?_
                rintro e w1 ⟨rfl, rfl⟩
                go_wp2_with fail
                go_ret3
                show RdPost w (wrd S) _ _
                rw [hE.out]
                exact ⟨_, rfl, World.ownsRow_nil _ _ _ _, Ext.refl _⟩
      · have hE : Hid (wrd S = (9, 0, [])) := by
          show wrd S = _
          rw [HS.out]
          refine wrd_torn x r (by rw [Hk.out]; exact h7) ?_
          have := Hr.out
          rw [HS.out] at this
          simp at this
          rw [Hk.out]
          omega
        have hl' : (n : Int) < (j : Int) + 1 := by omega
        go_wp2_with fail
        go_ret3
        show RdPost w (wrd S) _ _
        rw [hE.out]
        exact ⟨_, rfl, World.ownsRow_nil _ _ _ _, Ext.refl _⟩
theorem rint_any (v : Value) (S : List Int) (hb : Bytes S) (hn : S.length ≤ 900000) (w : World) (h : Rd8 w v S) : Calls Try.prog 43 #[v] w (RdPost w (wrd S)) := by
  match S, hb, hn, h with
  | [], _, _, h => exact rint_nil v w h
  | x :: r, hb, hn, h =>
    by_cases h7 : ones x ≤ 7
    · exact rint_good v _ x r rfl _ _ hb rfl hn rfl h7 w h
    · exact rint_bad8 v _ x r rfl _ hb rfl hn (by omega) w h
end Go.Proofs.Ytchkbidekmaaiaa
