/- bytes.Clone; the law's casePresent. -/
import Derived.Test.YtpfelklhejpnnaaShelf
import Derived.Test.YtpfelklhejpnnaaBq
import Derived.Test.YtpfelklhejpnnaaGn
import Derived.Test.YtpfelklhejpnnaaHaa
import Derived.Test.YtpfelklhejpnnaaGj
namespace Go.Proofs.Ytpfelklhejpnnaa
open Go.RowKit
set_option linter.unusedVariables false
set_option linter.unusedSimpArgs false
attribute [local go_sem ↓] Go.wp_at_zero Go.wp_at_succ

theorem bclone_any (v : Value) (l : List Int) (hl : l.length ≤ 900000) (w : World) (h : Rd8 w v l) :
    Calls Try.prog 18 #[v] w fun x w' => ∃ v', x = .returned v' ∧ Own8 w' w.heap.size v' l ∧ Ext w w' := by
  obtain ⟨a, cap, rfl, h1, h2, h3⟩ := Rd.shape h
  cases a with
  | none =>
    have hc := h3 rfl
    have hl0 : l = [] := List.eq_nil_of_length_eq_zero (by omega)
    refine (Try.bytes_Clone_nil _ _ w).mono ?_
    rintro e w' ⟨rfl, hw⟩
    rw [hw]
    refine ⟨_, rfl, by rw [hl0]; exact World.ownsRow_nil _ _ _ _, Ext.refl _⟩
  | some ad =>
    refine (Try.bytes_Clone_at ad l.length cap l w rfl (by omega) (fun i hi => ?_)).mono ?_
    · by_cases h0 : 0 < l.length
      · have hn := Rd.news h i (.int .u8 (l.getD i 0)) (by simp [bs, List.getD, hi])
        exact hn
      · omega
    · rintro e w' ⟨v', rfl, ho, -, hB⟩
      exact ⟨v', rfl, ho, hB⟩
theorem getD_memL {L : List (List Int)} {k : Nat} (hk : k < L.length) : L.getD k [] ∈ L := by
  rw [List.getD_eq_getElem?_getD, List.getElem?_eq_getElem hk]
  exact List.getElem_mem _
/-- How many byte strings of a list do not stand in another. -/
def notP (l X : List (List Int)) : Nat := (l.filter fun b => decide (b ∉ X)).length
theorem notP_succ (l X : List (List Int)) (k : Nat) (hk : k < l.length) : notP (l.take (k + 1)) X = notP (l.take k) X + (if l.getD k [] ∈ X then 0 else 1) := by
  unfold notP
  rw [List.take_add_one, List.getElem?_eq_getElem hk, List.filter_append, List.length_append]
  congr 1
  have e : l.getD k [] = l[k] := by simp [List.getD, hk]
  rw [e]
  by_cases h : l[k] ∈ X <;> simp [h]
theorem mem_take_succ (x : List Int) (X : List (List Int)) (k : Nat) (hk : k < X.length) : (x ∈ X.take (k + 1)) ↔ (x ∈ X.take k ∨ X.getD k [] = x) := by
  have e : X.getD k [] = X[k] := by simp [List.getD, hk]
  rw [List.take_add_one, List.getElem?_eq_getElem hk, List.mem_append, e]
  simp [eq_comm]
set_option maxRecDepth 100000 in
set_option maxHeartbeats 1000000 in
theorem cpresent_any (v1 v2 : Value) (L X : List (List Int)) (hLb : ∀ l ∈ L, Bytes l) (hXb : ∀ l ∈ X, Bytes l) (hLn : L.length ≤ 1000) (hXn : X.length ≤ 1000) (w : World) (h1 : RL w v1 L) (h2 : RL w v2 X) :
    Calls Try.prog 19 #[v1, v2] w fun e w' => e = .returned (.int .i64 (notP L X : Int)) ∧ Ext w w' := by
  obtain ⟨a1, c1, rfl, -⟩ := h1.shape
  obtain ⟨a2, c2, rfl, -⟩ := h2.shape
  have heq := fun va vb a b (ha : Bytes a) (hb : Bytes b) W r1 r2 => bequal_any va vb a b ha hb W r1 r2
  obtain ⟨n, hn⟩ : ∃ n, L.length = n := ⟨_, rfl⟩
  obtain ⟨m, hm⟩ : ∃ n, X.length = n := ⟨_, rfl⟩
  rw [hn] at h1 hLn ⊢
  rw [hm] at h2 hXn ⊢
  replace h1 := hidden h1
  replace h2 := hidden h2
  replace heq := hidden heq
  replace hLb := hidden hLb
  replace hXb := hidden hXb
  go_enter Try.func19, Try.ntmps19
  go_upto_region 3 with fail
  go_loopw [5, 13] (fun u i wr => ∃ k c : Nat, i = .int .i64 (k : Int) ∧ u = .int .i64 (c : Int) ∧ k ≤ n ∧ c ≤ k ∧ Hid (c = notP (L.take k) X) ∧ Hid (Ext w wr)) (fun _ i _ => n - (intOf i).toNat)
  case atStart => exact ⟨0, 0, rfl, rfl, by omega, by omega, hidden rfl, hidden (Ext.refl w)⟩
  case round =>
    obtain ⟨k, c, rfl, rfl, hk, hck, hc, hX⟩ := hrel
    have v1 : IntKind.i64.wrap ((k : Int) + 1) = (k : Int) + 1 := IntWalk.i64_in _ (by omega)
    have v2 : IntKind.i64.wrap ((c : Int) + 1) = (c : Int) + 1 := IntWalk.i64_in _ (by omega)
    obtain ⟨w3, hWW⟩ : ∃ X, X = wr := ⟨_, rfl⟩
    subst hWW
    by_cases hlt : k < n
    · have hlt2 : (k : Int) < (n : Int) := by omega
      obtain ⟨b', off', a3, c3, rfl, cR, hrd⟩ := (h1.out.ext hX.out).row k hlt
      have hlb := hLb.out _ (getD_memL (show k < L.length by omega))
      have hstep := notP_succ L X k (by omega)
      obtain ⟨x, hx⟩ : ∃ y, L.getD k [] = y := ⟨_, rfl⟩
      rw [hx] at cR hrd hlb hstep
      obtain ⟨lx, hlx⟩ : ∃ y, x.length = y := ⟨_, rfl⟩
      rw [hlx] at cR hrd
      rw [← hc.out] at hstep
      replace hstep := hidden hstep
      replace hrd := hidden hrd
      replace hlb := hidden hlb
      replace hlx := hidden hlx
      clear hx hc
      go_upto_region 7 with fail
      go_loopw [8, 19] (fun u i wr => ∃ j : Nat, ∃ t : Bool, i = .int .i64 (j : Int) ∧ u = .bool t ∧ j ≤ m ∧ Hid (t = decide (x ∈ X.take j)) ∧ Hid (Ext w3 wr)) (fun _ i _ => m - (intOf i).toNat)
      case atStart => exact ⟨0, false, rfl, rfl, by omega, hidden (by simp), hidden (Ext.refl w3)⟩
      case round =>
        obtain ⟨j, t, rfl, rfl, hj, ht, hX4⟩ := hrel
        have v3 : IntKind.i64.wrap ((j : Int) + 1) = (j : Int) + 1 := IntWalk.i64_in _ (by omega)
        obtain ⟨w4, hWW⟩ : ∃ X, X = wr := ⟨_, rfl⟩
        subst hWW
        have hX04 : Hid (Ext w w4) := hidden (hX.out.trans hX4.out)
        by_cases hjm : j < m
        · have hjm2 : (j : Int) < (m : Int) := by omega
          obtain ⟨b5, off5, a5, c5, rfl, cR5, hrd5⟩ := (h2.out.ext hX04.out).row j hjm
          have hyb := hXb.out _ (getD_memL (show j < X.length by omega))
          have hms := mem_take_succ x X j (by omega)
          obtain ⟨y, hy⟩ : ∃ y, X.getD j [] = y := ⟨_, rfl⟩
          rw [hy] at cR5 hrd5 hyb hms
          have he := heq.out _ _ y x hyb hlb.out w4 hrd5 (hrd.out.ext hX4.out)
          obtain ⟨ly, hly⟩ : ∃ z, y.length = z := ⟨_, rfl⟩
          rw [hly] at cR5 he
          cases t with
          | true =>
            have hnew : Hid (true = decide (x ∈ X.take (j + 1))) := hidden (by
              have := ht.out
              rw [eq_comm, decide_eq_true_iff] at this
              rw [eq_comm, decide_eq_true_iff, hms]
              exact Or.inl this)
            clear he hrd5 hyb hms hy hly ht
            go_wp2_with fail
            exact ⟨⟨j + 1, true, by go_num, rfl, by omega, hnew, hX4⟩, by simp [intOf]; omega⟩
          | false =>
            obtain ⟨t2, ht2⟩ : ∃ z, decide (y = x) = z := ⟨_, rfl⟩
            have hnew : Hid (t2 = decide (x ∈ X.take (j + 1))) := hidden (by
              have := ht.out
              rw [eq_comm, decide_eq_false_iff_not] at this
              rw [← ht2, decide_eq_decide, hms]
              constructor
              · exact Or.inr
              · rintro (h | h)
                · exact absurd h this
                · exact h)
            rw [ht2] at he
            replace he := hidden he
            clear hrd5 hyb hms hy hly ht ht2
            go_wp2_with fail
            refine he.out.mono ?_
            rintro e w5 ⟨rfl, hX5⟩
            have hX6 : Hid (Ext w3 w5) := hidden (hX4.out.trans hX5)
            clear he hX5
            go_wp2_with fail
            exact ⟨⟨j + 1, t2, by go_num, rfl, by omega, hnew, hX6⟩, by simp [intOf]; omega⟩
        · have hje : j = m := by omega
          have hk9 : decide ((j : Int) < (m : Int)) = false := decide_eq_false (by omega)
          have ht2 := ht.out
          rw [hje, List.take_of_length_le (by omega)] at ht2
          clear ht hje
          cases t with
          | true =>
            have hnew : Hid (c = notP (L.take (k + 1)) X) := hidden (by
              rw [eq_comm, decide_eq_true_iff] at ht2
              rw [hstep.out, if_pos ht2, Nat.add_zero])
            clear ht2
            go_wp2_with fail
            go_roundw
            case rel => exact ⟨k + 1, c, by go_num, rfl, by omega, by omega, hnew, hX04⟩
            case measure => simp [intOf]; omega
          | false =>
            have hnew : Hid (c + 1 = notP (L.take (k + 1)) X) := hidden (by
              rw [eq_comm, decide_eq_false_iff_not] at ht2
              rw [hstep.out, if_neg ht2])
            clear ht2
            go_wp2_with fail
            go_roundw
            case rel => exact ⟨k + 1, c + 1, by go_num, by go_num, by omega, by omega, hnew, hX04⟩
            case measure => simp [intOf]; omega
    · have hke : k = n := by omega
      have hk8 : decide ((k : Int) < (n : Int)) = false := decide_eq_false (by omega)
      have hc2 := hc.out
      rw [hke, List.take_of_length_le (by omega)] at hc2
      replace hc2 := hidden hc2
      clear hc hke
      go_wp2_with fail
      go_ret
      exact ⟨by rw [hc2.out]; rfl, hX.out⟩
/-- Whether a byte string is a volume, but none of some others. -/
def frg (l : List (List Int)) (x : List Int) : Bool := decide ((hdF x).1 = 0 ∧ x ∉ l)
set_option maxRecDepth 100000 in
set_option maxHeartbeats 1000000 in
theorem cforged_any (v1 v2 : Value) (L X : List (List Int)) (hLb : ∀ l ∈ L, Bytes l) (hXb : ∀ l ∈ X, Bytes l) (hXl : ∀ l ∈ X, l.length ≤ 900000) (hLn : L.length ≤ 1000) (hXn : X.length ≤ 1000) (w : World) (h1 : RL w v1 L) (h2 : RL w v2 X) :
    Calls Try.prog 7 #[v1, v2] w fun e w' => e = .returned (.bool (X.any (frg L))) ∧ Ext w w' := by
  obtain ⟨a1, c1, rfl, -⟩ := h1.shape
  obtain ⟨a2, c2, rfl, -⟩ := h2.shape
  have heq := fun va vb a b (ha : Bytes a) (hb : Bytes b) W r1 r2 => bequal_any va vb a b ha hb W r1 r2
  have hhd := fun v D hb hl W h => rheader_any v D hb hl W h
  obtain ⟨n, hn⟩ : ∃ n, X.length = n := ⟨_, rfl⟩
  obtain ⟨m, hm⟩ : ∃ n, L.length = n := ⟨_, rfl⟩
  rw [hn] at h2 hXn ⊢
  rw [hm] at h1 hLn ⊢
  replace h1 := hidden h1
  replace h2 := hidden h2
  replace heq := hidden heq
  replace hhd := hidden hhd
  replace hLb := hidden hLb
  replace hXb := hidden hXb
  replace hXl := hidden hXl
  go_enter Try.func7, Try.ntmps7
  go_upto_region 2 with fail
  go_loopw [15] (fun i wr => ∃ k : Nat, i = .int .i64 (k : Int) ∧ k ≤ n ∧ Hid ((X.take k).any (frg L) = false) ∧ Hid (Ext w wr)) (fun i _ => n - (intOf i).toNat)
  case atStart => exact ⟨0, rfl, by omega, hidden rfl, hidden (Ext.refl w)⟩
  case round =>
    obtain ⟨k, rfl, hk, hc, hX⟩ := hrel
    have v1 : IntKind.i64.wrap ((k : Int) + 1) = (k : Int) + 1 := IntWalk.i64_in _ (by omega)
    obtain ⟨w3, hWW⟩ : ∃ X, X = wr := ⟨_, rfl⟩
    subst hWW
    by_cases hlt : k < n
    · have hlt2 : (k : Int) < (n : Int) := by omega
      obtain ⟨b', off', a3, c3, rfl, cR, hrd⟩ := (h2.out.ext hX.out).row k hlt
      have hmem := getD_memL (show k < X.length by omega)
      have hlb := hXb.out _ hmem
      have hstep : (X.take (k + 1)).any (frg L) = ((X.take k).any (frg L) || frg L (X.getD k [])) := by
        have e3 : X[k]? = some (X.getD k []) := by simp [List.getD, show k < X.length by omega]
        rw [List.take_add_one, e3]
        simp
      have hany : frg L (X.getD k []) = true → X.any (frg L) = true := fun h => List.any_eq_true.2 ⟨_, hmem, h⟩
      have hc1 := hhd.out _ _ hlb (hXl.out _ hmem) w3 hrd
      obtain ⟨x, hx⟩ : ∃ y, X.getD k [] = y := ⟨_, rfl⟩
      rw [hx] at cR hrd hlb hstep hc1 hany
      rw [hc.out, Bool.false_or] at hstep
      obtain ⟨lx, hlx⟩ : ∃ y, x.length = y := ⟨_, rfl⟩
      rw [hlx] at cR hrd hc1
      unfold HdP vH at hc1
      have hfr : frg L x = decide ((hdF x).1 = 0 ∧ x ∉ L) := rfl
      obtain ⟨er, her⟩ : ∃ y, (hdF x).1 = y := ⟨_, rfl⟩
      rw [her] at hfr
      obtain ⟨ns, hns⟩ : ∃ y, (hdF x).2.1 = y := ⟨_, rfl⟩
      obtain ⟨part, hpart⟩ : ∃ y, (hdF x).2.2 = y := ⟨_, rfl⟩
      simp only [her, hns, hpart] at hc1
      obtain ⟨f0, hf0⟩ : ∃ y, ns.getD 0 0 = y := ⟨_, rfl⟩
      obtain ⟨f1, hf1⟩ : ∃ y, ns.getD 1 0 = y := ⟨_, rfl⟩
      obtain ⟨f2, hf2⟩ : ∃ y, ns.getD 2 0 = y := ⟨_, rfl⟩
      obtain ⟨f3, hf3⟩ : ∃ y, ns.getD 3 0 = y := ⟨_, rfl⟩
      obtain ⟨f4, hf4⟩ : ∃ y, ns.getD 4 0 = y := ⟨_, rfl⟩
      simp only [hf0, hf1, hf2, hf3, hf4] at hc1
      replace hc1 := hidden hc1
      replace hrd := hidden hrd
      replace hstep := hidden hstep
      replace hany := hidden hany
      replace hfr := hidden hfr
      replace hlb := hidden hlb
      replace hlx := hidden hlx
      clear hx hc hmem her hns hpart hf0 hf1 hf2 hf3 hf4
      go_wp2_with fail
      refine hc1.out.mono ?_
      rintro e w4 ⟨v4, rfl, hO4, hX4⟩
      obtain ⟨ua, uc, rfl⟩ := rd8_one hO4.rd
      have hX34 : Hid (Ext w3 (w4.alloc (.cells #[.int .u32 f0, .int .i64 f1, .int .i64 f2, .int .i64 f3, .int .i64 f4] 47))) := hidden (hX4.alloc _)
      go_upto_region 7 with fail
      obtain ⟨w5, hw5⟩ : ∃ X, w4.alloc (.cells #[.int .u32 f0, .int .i64 f1, .int .i64 f2, .int .i64 f3, .int .i64 f4] 47) = X := ⟨_, rfl⟩
      rw [hw5] at hX34 ⊢
      have hX5 : Hid (Ext w w5) := hidden (hX.out.trans hX34.out)
      clear hw5 hO4 hX4 hc1
      go_loopw [10, 27] (fun u i wr => ∃ j : Nat, ∃ t : Bool, i = .int .i64 (j : Int) ∧ u = .bool t ∧ j ≤ m ∧ Hid (t = decide (x ∈ L.take j)) ∧ Hid (Ext w5 wr)) (fun _ i _ => m - (intOf i).toNat)
      case atStart => exact ⟨0, false, rfl, rfl, by omega, hidden (by simp), hidden (Ext.refl w5)⟩
      case round =>
        obtain ⟨j, t, rfl, rfl, hj, ht, hX4⟩ := hrel
        have v3 : IntKind.i64.wrap ((j : Int) + 1) = (j : Int) + 1 := IntWalk.i64_in _ (by omega)
        obtain ⟨w6, hWW⟩ : ∃ X, X = wr := ⟨_, rfl⟩
        subst hWW
        have hX04 : Hid (Ext w w6) := hidden (hX5.out.trans hX4.out)
        by_cases hjm : j < m
        · have hjm2 : (j : Int) < (m : Int) := by omega
          obtain ⟨b5, off5, a5, c5, rfl, cR5, hrd5⟩ := (h1.out.ext hX04.out).row j hjm
          have hyb := hLb.out _ (getD_memL (show j < L.length by omega))
          have hms := mem_take_succ x L j (by omega)
          obtain ⟨y, hy⟩ : ∃ y, L.getD j [] = y := ⟨_, rfl⟩
          rw [hy] at cR5 hrd5 hyb hms
          have he := heq.out _ _ x y hlb.out hyb w6 ((hrd.out.ext hX34.out).ext hX4.out) hrd5
          obtain ⟨ly, hly⟩ : ∃ z, y.length = z := ⟨_, rfl⟩
          rw [hly] at cR5 he
          cases t with
          | true =>
            have hnew : Hid (true = decide (x ∈ L.take (j + 1))) := hidden (by
              have := ht.out
              rw [eq_comm, decide_eq_true_iff] at this
              rw [eq_comm, decide_eq_true_iff, hms]
              exact Or.inl this)
            clear he hrd5 hyb hms hy hly ht
            go_wp2_with fail
            exact ⟨⟨j + 1, true, by go_num, rfl, by omega, hnew, hX4⟩, by simp [intOf]; omega⟩
          | false =>
            obtain ⟨t2, ht2⟩ : ∃ z, decide (x = y) = z := ⟨_, rfl⟩
            have hnew : Hid (t2 = decide (x ∈ L.take (j + 1))) := hidden (by
              have := ht.out
              rw [eq_comm, decide_eq_false_iff_not] at this
              rw [← ht2, decide_eq_decide, hms]
              constructor
              · exact fun h => Or.inr h.symm
              · rintro (h | h)
                · exact absurd h this
                · exact h.symm)
            rw [ht2] at he
            replace he := hidden he
            clear hrd5 hyb hms hy hly ht ht2
            go_wp2_with fail
            refine he.out.mono ?_
            rintro e w7 ⟨rfl, hX7⟩
            have hX6 : Hid (Ext w5 w7) := hidden (hX4.out.trans hX7)
            clear he hX7
            go_wp2_with fail
            exact ⟨⟨j + 1, t2, by go_num, rfl, by omega, hnew, hX6⟩, by simp [intOf]; omega⟩
        · have hje : j = m := by omega
          have hk9 : decide ((j : Int) < (m : Int)) = false := decide_eq_false (by omega)
          have ht2 := ht.out
          rw [hje, List.take_of_length_le (by omega)] at ht2
          clear ht hje
          by_cases h0 : er = 0
          · subst h0
            cases t with
            | true =>
              have hnew : Hid ((X.take (k + 1)).any (frg L) = false) := hidden (by
                rw [eq_comm, decide_eq_true_iff] at ht2
                rw [hstep.out, hfr.out]
                exact decide_eq_false (fun h => h.2 ht2))
              clear ht2
              go_wp2_with fail
              go_roundw
              case rel => exact ⟨k + 1, by go_num, by omega, hnew, hX04⟩
              case measure => simp [intOf]; omega
            | false =>
              have hnew : Hid (X.any (frg L) = true) := hidden (by
                rw [eq_comm, decide_eq_false_iff_not] at ht2
                exact hany.out (by rw [hfr.out]; exact decide_eq_true ⟨rfl, ht2⟩))
              clear ht2
              go_wp2_with fail
              go_ret
              exact ⟨by rw [hnew.out]; rfl, hX04.out⟩
          · have g0 : (er == 0) = false := by simp [h0]
            have hnew : Hid ((X.take (k + 1)).any (frg L) = false) := hidden (by
              rw [hstep.out, hfr.out]
              exact decide_eq_false (fun h => h0 h.1))
            replace h0 := hidden h0
            clear ht2
            go_wp2_with fail
            go_roundw
            case rel => exact ⟨k + 1, by go_num, by omega, hnew, hX04⟩
            case measure => simp [intOf]; omega
    · have hke : k = n := by omega
      have hk8 : decide ((k : Int) < (n : Int)) = false := decide_eq_false (by omega)
      have hc2 := hc.out
      rw [hke, List.take_of_length_le (by omega)] at hc2
      replace hc2 := hidden hc2
      clear hc hke
      go_wp2_with fail
      go_ret
      exact ⟨by rw [hc2.out]; rfl, hX.out⟩
end Go.Proofs.Ytpfelklhejpnnaa
