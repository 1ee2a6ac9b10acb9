/- Layer 36: the statement ParseCertifies. -/
import Derived.Test.YtjfdmhdmadnkoaaNl
namespace Go.Proofs.Ytjfdmhdmadnkoaa
open Go.RowKit
set_option linter.unusedVariables false
attribute [local go_sem ↓] Go.wp_at_zero Go.wp_at_succ

set_option maxRecDepth 100000 in
set_option maxHeartbeats 4000000 in
theorem ParseCertifies_law (v : Value) (D : List Int) (vl : Value) (l : List (Int × Int × Int)) (vp : Value) (P : List Int) (hb : Bytes D) (hok : OkTs l) (hP : ∀ z ∈ P, -9223372036854775808 ≤ z ∧ z ≤ 9223372036854775807) (w : World) (h : Rd8 w v D) (ht : Toks w vl l) (hp : RdI w vp P) :
    Calls Try.prog 5 #[v, vl, vp] w fun x w' => x = .returned (.bool true) ∧ Ext w w' := by
  have haw := hidden pawake_any
  have k1 := fun W hW => pcost_any vl l hok W hW
  have k2 := fun W hW => rcost_any vl l hok W hW
  have k3 := fun (hD : D.length ≤ 9223372036854775807) (hl : P.length ≤ 1000000) W hW hT hQ => pcert_any v vl vp D P l hb hok hD hl W hW hT hQ
  have k4 := fun (hD : D.length ≤ 9223372036854775807) (hl : P.length ≤ 1000000) W hW hT hQ => rcert_any v vl vp D P l hb hok hD hl W hW hT hQ
  obtain ⟨a, cap, rfl, q1, q2, q3⟩ := Rd.shape h
  obtain ⟨b, dap, rfl, p1, p2, p3⟩ := Rd.shape ht
  obtain ⟨c, eap, rfl, o1, o2, o3⟩ := Rd.shape hp
  obtain ⟨n, hn⟩ : ∃ n, D.length = n := ⟨_, rfl⟩
  obtain ⟨m, hm⟩ : ∃ m, l.length = m := ⟨_, rfl⟩
  obtain ⟨r, hr⟩ : ∃ r, P.length = r := ⟨_, rfl⟩
  have H : Hid (Rd8 w (.slice a n cap) D) := hidden (by rw [← hn]; exact h)
  have HT : Hid (Toks w (.slice b m dap) l) := hidden (by rw [← hm]; exact ht)
  have HP : Hid (RdI w (.slice c r eap) P) := hidden (by rw [← hr]; exact hp)
  obtain ⟨⟨e1, z1⟩, hE1⟩ : ∃ r, cosE l = r := ⟨_, rfl⟩
  obtain ⟨C, hC⟩ : ∃ r, cerF D l P = r := ⟨_, rfl⟩
  rw [hE1] at k1 k2
  rw [hC] at k3 k4
  rw [hn, hm, hr] at k3 k4
  rw [hm] at k1 k2
  rw [hn] at q1 ⊢
  rw [hm] at p1 ⊢
  rw [hr] at o1 ⊢
  clear h ht hp hb hok hP hn hm hr hE1 hC
  have hsplit : 120 < n ∨ (n ≤ 120 ∧ 200 < m) ∨ (n ≤ 120 ∧ m ≤ 200 ∧ 200 < r) ∨ (n ≤ 120 ∧ m ≤ 200 ∧ r ≤ 200) := by omega
  rcases hsplit with g | ⟨g0, g1⟩ | ⟨g0, g1, g2⟩ | ⟨g0, g1, g2⟩
  · clear k1 k2 k3 k4
    go_enter Try.func5, Try.ntmps5
    go_wp2_with fail
    refine (haw.out _).mono ?_
    rintro e1 w1 ⟨rfl, g1⟩
    go_wp2_with fail
    go_ret
    exact ⟨rfl, g1⟩
  · clear k1 k2 k3 k4
    go_enter Try.func5, Try.ntmps5
    go_wp2_with fail
    refine (haw.out _).mono ?_
    rintro e1 w1 ⟨rfl, g1⟩
    go_wp2_with fail
    go_ret
    exact ⟨rfl, g1⟩
  · clear k1 k2 k3 k4
    go_enter Try.func5, Try.ntmps5
    go_wp2_with fail
    refine (haw.out _).mono ?_
    rintro e1 w1 ⟨rfl, g1⟩
    go_wp2_with fail
    go_ret
    exact ⟨rfl, g1⟩
  · replace k3 := k3 (by omega) (by omega)
    replace k4 := k4 (by omega) (by omega)
    replace k1 := hidden k1
    replace k2 := hidden k2
    replace k3 := hidden k3
    replace k4 := hidden k4
    go_enter Try.func5, Try.ntmps5
    go_wp2_with fail
    refine (k1.out _ HT.out).mono ?_
    rintro x1 w1 ⟨rfl, f1⟩
    have HT1 : Hid (Toks w1 (.slice b m dap) l) := hidden (Rd.ext HT.out f1)
    replace f1 := hidden f1
    go_wp2_with fail
    refine (k2.out _ HT1.out).mono ?_
    rintro x2 w2 ⟨rfl, f2⟩
    have F2 := hidden (f1.out.trans f2)
    clear f2
    go_wp2_with fail
    refine (haw.out _).mono ?_
    rintro x3 w3 ⟨rfl, f3⟩
    have F3 := hidden (F2.out.trans f3)
    clear f3
    go_wp2_with fail
    refine (k3.out _ (Rd.ext H.out F3.out) (Rd.ext HT.out F3.out) (RdI.ext HP.out F3.out)).mono ?_
    rintro x4 w4 ⟨rfl, f4⟩
    have F4 := hidden (F3.out.trans f4)
    clear f4
    go_wp2_with fail
    refine (k4.out _ (Rd.ext H.out F4.out) (Rd.ext HT.out F4.out) (RdI.ext HP.out F4.out)).mono ?_
    rintro x5 w5 ⟨rfl, f5⟩
    have F5 := hidden (F4.out.trans f5)
    clear f5
    go_wp2_with fail
    go_ret
    exact ⟨rfl, F5.out⟩
end Go.Proofs.Ytjfdmhdmadnkoaa
