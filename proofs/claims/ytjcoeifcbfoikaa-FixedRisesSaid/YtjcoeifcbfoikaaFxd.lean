/- What Round, Log and Cost compute, and their references. -/
import Derived.Test.YtjcoeifcbfoikaaFxc
namespace Go.Proofs.Ytjcoeifcbfoikaa
open Go.RowKit

theorem limit2c (n c : Int) (h : Hid (cl (-mx) mx n = c)) (w : World) :
    Calls Try.prog 25 #[.int .i64 n, .int .i64 2] w fun e w' => e = .returned (.int .i64 c) ∧ Ext w w' := by
  have := limit2 n w; rw [h.out] at this; exact this
theorem limit3c (n c : Int) (h : Hid (cl 1 mx n = c)) (w : World) :
    Calls Try.prog 25 #[.int .i64 n, .int .i64 3] w fun e w' => e = .returned (.int .i64 c) ∧ Ext w w' := by
  have := limit3 n w; rw [h.out] at this; exact this
theorem between2c (n c : Int) (h : Hid (cl (-mx) mx n = c)) (w : World) :
    Calls Try.prog 26 #[.int .i64 n, .int .i64 (-9007199254740991), .int .i64 9007199254740991] w fun e w' => e = .returned (.int .i64 c) ∧ w = w' := by
  have := between_any n (-9007199254740991) 9007199254740991 w; rw [show cl (-9007199254740991) 9007199254740991 n = c from h.out] at this; exact this
theorem between3c (n c : Int) (h : Hid (cl 1 mx n = c)) (w : World) :
    Calls Try.prog 26 #[.int .i64 n, .int .i64 1, .int .i64 9007199254740991] w fun e w' => e = .returned (.int .i64 c) ∧ w = w' := by
  have := between_any n 1 9007199254740991 w; rw [show cl 1 9007199254740991 n = c from h.out] at this; exact this

set_option maxHeartbeats 400000 in
theorem round_pp (n d c e : Int) (hc : Hid (cl (-mx) mx n = c)) (he : Hid (cl (-mx) mx d = e)) (hc0 : 0 ≤ c) (hc1 : c ≤ 9007199254740991) (he0 : 0 < e) (he1 : e ≤ 9007199254740991) (w : World) :
    Calls Try.prog 19 #[.int .i64 n, .int .i64 d] w fun x w' => x = .returned (.int .i64 (rpos c e)) ∧ Ext w w' := by
  have hz : (e == 0) = false := by simp; omega
  have hb := rpos_bd c e hc0 hc1 he0 he1
  have hm : mx = 9007199254740991 := rfl
  have hq0 : 0 ≤ (2 * c + e) / (2 * e) := hb.1
  have hq1 : (2 * c + e) / (2 * e) ≤ 9007199254740992 := by have := hb.2; rw [hm] at this; exact this
  clear hb hm
  go_enter Try.func19, Try.ntmps19
  go_wp2_with fail
  refine (limit2c n c hc _).mono ?_
  rintro x w1 ⟨rfl, hg1⟩
  go_wp2_with fail
  refine (limit2c d e he _).mono ?_
  rintro x w2 ⟨rfl, hg2⟩
  go_wp2_with fail
  go_ret
  exact ⟨ret_int rfl, hg1.trans hg2⟩

theorem cl_idm (n : Int) (h1 : -9007199254740991 ≤ n) (h2 : n ≤ 9007199254740991) : cl (-mx) mx n = n := cl_id _ _ _ h1 h2
theorem cl_bdm (n : Int) : -9007199254740991 ≤ cl (-mx) mx n ∧ cl (-mx) mx n ≤ 9007199254740991 := cl_bd _ _ _ (by decide)

set_option maxHeartbeats 400000 in
theorem round_any (n d : Int) (w : World) :
    Calls Try.prog 19 #[.int .i64 n, .int .i64 d] w fun x w' => x = .returned (.int .i64 (rnd n d)) ∧ Ext w w' := by
  have hbn := cl_bdm n
  have hbd := cl_bdm d
  obtain ⟨c, hc⟩ : ∃ c, cl (-mx) mx n = c := ⟨_, rfl⟩
  obtain ⟨e, he⟩ : ∃ e, cl (-mx) mx d = e := ⟨_, rfl⟩
  have hres : Hid (rnd n d = rn c e) := by unfold rnd; rw [hc, he]; rfl
  rw [hc] at hbn
  rw [he] at hbd
  have Hc := hidden hc
  have He := hidden he
  clear hc he
  obtain ⟨hn1, hn2⟩ := hbn
  obtain ⟨hd1, hd2⟩ := hbd
  rcases Int.lt_trichotomy e 0 with h | h | h
  · have hz : (e == 0) = false := by simp; omega
    by_cases hp : 0 < c
    · have hb := rpos_bd c (-e) (by omega) hn2 (by omega) (by show _ ≤ (9007199254740991 : Int); omega)
      have hq0 := hb.1
      have hq1 : rpos c (-e) ≤ 9007199254740992 := hb.2
      clear hb
      go_enter Try.func19, Try.ntmps19
      go_wp2_with fail
      refine (limit2c n c Hc _).mono ?_
      rintro x w1 ⟨rfl, hg1⟩
      go_wp2_with fail
      refine (limit2c d e He _).mono ?_
      rintro x w2 ⟨rfl, hg2⟩
      go_wp2_with fail
      refine (round_pp _ _ c (-e) (cl_idm _ (by omega) (by omega)) (cl_idm _ (by omega) (by omega)) (by omega) (by omega) (by omega) (by omega) _).mono ?_
      rintro x w3 ⟨rfl, hg3⟩
      go_wp2_with fail
      go_ret
      exact ⟨ret_int (by rw [hres.out]; unfold rn rsg; rw [if_neg (by omega), if_pos h, if_pos (by omega), Int.neg_neg]), (hg1.trans hg2).trans hg3⟩
    · have hb := rpos_bd (-c) (-e) (by omega) (by show _ ≤ (9007199254740991 : Int); omega) (by omega) (by show _ ≤ (9007199254740991 : Int); omega)
      have hq0 : 0 ≤ (2 * -c + -e) / (2 * -e) := hb.1
      have hq1 : (2 * -c + -e) / (2 * -e) ≤ 9007199254740992 := hb.2
      clear hb
      go_enter Try.func19, Try.ntmps19
      go_wp2_with fail
      refine (limit2c n c Hc _).mono ?_
      rintro x w1 ⟨rfl, hg1⟩
      go_wp2_with fail
      refine (limit2c d e He _).mono ?_
      rintro x w2 ⟨rfl, hg2⟩
      go_wp2_with fail
      go_ret
      exact ⟨ret_int (by rw [hres.out]; unfold rn rsg; rw [if_neg (by omega), if_pos h, if_neg (by omega)]; rfl), hg1.trans hg2⟩
  · subst h
    go_enter Try.func19, Try.ntmps19
    go_wp2_with fail
    refine (limit2c n c Hc _).mono ?_
    rintro x w1 ⟨rfl, hg1⟩
    go_wp2_with fail
    refine (limit2c d 0 He _).mono ?_
    rintro x w2 ⟨rfl, hg2⟩
    go_wp2_with fail
    go_ret
    exact ⟨ret_int (by rw [hres.out]; rfl), hg1.trans hg2⟩
  · have hz : (e == 0) = false := by simp; omega
    by_cases hp : 0 ≤ c
    · have := round_pp n d c e Hc He hp hn2 h hd2 w
      have hr : rn c e = rpos c e := by unfold rn rsg; rw [if_neg (by omega), if_neg (by omega), if_neg (by omega)]
      rw [hres.out, hr]
      exact this
    · have hb := rpos_bd (-c) e (by omega) (by show _ ≤ (9007199254740991 : Int); omega) (by omega) hd2
      have hq0 := hb.1
      have hq1 : rpos (-c) e ≤ 9007199254740992 := hb.2
      clear hb
      go_enter Try.func19, Try.ntmps19
      go_wp2_with fail
      refine (limit2c n c Hc _).mono ?_
      rintro x w1 ⟨rfl, hg1⟩
      go_wp2_with fail
      refine (limit2c d e He _).mono ?_
      rintro x w2 ⟨rfl, hg2⟩
      go_wp2_with fail
      refine (round_pp _ _ (-c) e (cl_idm _ (by omega) (by omega)) (cl_idm _ (by omega) (by omega)) (by omega) (by omega) (by omega) (by omega) _).mono ?_
      rintro x w3 ⟨rfl, hg3⟩
      go_wp2_with fail
      go_ret
      exact ⟨ret_int (by rw [hres.out]; unfold rn rsg; rw [if_neg (by omega), if_neg (by omega), if_pos (by omega)]), (hg1.trans hg2).trans hg3⟩

end Go.Proofs.Ytjcoeifcbfoikaa
