/- Layer 36: Forward and Inverse; the statement ParseReturns. -/
import Derived.Test.YtjfdmhdmadnkoaaNn
namespace Go.Proofs.Ytjfdmhdmadnkoaa
open Go.RowKit
set_option linter.unusedVariables false
attribute [local go_sem ↓] Go.wp_at_zero Go.wp_at_succ

theorem bequal_any (va vb : Value) (a b : List Int) (ha : Bytes a) (hb : Bytes b) (w : World) (h1 : Rd8 w va a) (h2 : Rd8 w vb b) :
    Calls Try.prog 26 #[va, vb] w fun e w' => e = .returned (.bool (decide (a = b))) ∧ Ext w w' := by
  have c1 := str_of h1
  have c2 := str_of h2
  obtain ⟨x, cap, rfl, p1, p2, p3⟩ := Rd.shape h1
  obtain ⟨y, dap, rfl, q1, q2, q3⟩ := Rd.shape h2
  have hse := str_eq ha hb
  obtain ⟨sa, hsa⟩ : ∃ s, strOfNums a = s := ⟨_, rfl⟩
  obtain ⟨sb, hsb⟩ : ∃ s, strOfNums b = s := ⟨_, rfl⟩
  have he : Hid ((sa.toList == sb.toList) = decide (a = b)) := hidden (by rw [← hsa, ← hsb]; exact hse)
  rw [hsa] at c1
  rw [hsb] at c2
  clear hsa hsb hse
  go_enter Try.func26, Try.ntmps26
  go_wp2_with fail
  go_ret
  exact ⟨ret_bool he.out, Ext.refl _⟩

theorem pforward_ok (v : Value) (D : List Int) (hb : Bytes D) (hl : D.length ≤ 120) (w : World) (h : Rd8 w v D) :
    Calls Try.prog 27 #[v] w (ExPost w (0, pshs [] 0 (tbs (opF D)))) := by
  have hc := popt_any v D hb (by omega) w h
  obtain ⟨-, hok, hln, -, -, -⟩ := fac_all hb (by omega) (opF_fac hb)
  have he := (enc_opt hb (by omega)).1
  rw [show optE D = (0, opF D, (poF D).getD 0 0) by unfold optE; rw [if_neg (by omega)]] at hc
  obtain ⟨X, hX⟩ : ∃ X, pshs [] 0 (tbs (opF D)) = X := ⟨_, rfl⟩
  rw [hX] at he ⊢
  have hen := fun u W hW => lencode_any u (opF D) hok (by omega) W hW
  rw [he] at hen
  obtain ⟨l, hll⟩ : ∃ l, opF D = l := ⟨_, rfl⟩
  obtain ⟨z, hz⟩ : ∃ z, (poF D).getD 0 0 = z := ⟨_, rfl⟩
  rw [hll, hz] at hc
  rw [hll] at hen
  obtain ⟨a, cap, rfl, q1, q2, q3⟩ := Rd.shape h
  replace hc := hidden hc
  replace hen := hidden hen
  clear h hb hX hll hz hok hln he
  go_enter Try.func27, Try.ntmps27
  go_wp2_with fail
  refine hc.out.mono ?_
  rintro e1 w1 he1
  obtain ⟨v1, rfl, O1, g1⟩ := he1
  obtain ⟨a1, d1, rfl, -, -, -⟩ := Rd.shape O1.toks
  have T1 : Hid (Toks w1 (.slice a1 l.length d1) l) := hidden O1.toks
  clear O1
  go_wp2_with fail
  refine (hen.out _ _ T1.out).mono ?_
  rintro e2 w2 he2
  obtain ⟨v2, rfl, O2, g2⟩ := he2
  obtain ⟨a2, d2, rfl, -, -, -⟩ := Rd.shape O2.rd
  have o2 := hidden (own_mono O2 g1.size)
  have x2 := hidden (g1.trans g2)
  clear O2 g1 g2
  go_wp2_with fail
  go_ret2
  exact ⟨_, rfl, o2.out, x2.out⟩

theorem pinverse_ok (v : Value) (X D : List Int) (l : List (Int × Int × Int)) (hb : Bytes X) (hl : X.length ≤ 65536) (hd : decF X = (0, l)) (hok : OkTs l) (he : expF l = (0, D)) (w : World) (h : Rd8 w v X) :
    Calls Try.prog 28 #[v] w (ExPost w (0, D)) := by
  have hc := ldecode_any v X hb hl w h
  rw [hd] at hc
  have hen := fun u W hW => lexpand_any u l hok W hW
  rw [he] at hen
  obtain ⟨a, cap, rfl, q1, q2, q3⟩ := Rd.shape h
  replace hc := hidden hc
  replace hen := hidden hen
  clear h hb hd hok he
  go_enter Try.func28, Try.ntmps28
  go_wp2_with fail
  refine hc.out.mono ?_
  rintro e1 w1 he1
  obtain ⟨v1, rfl, O1, g1⟩ := he1
  obtain ⟨a1, d1, rfl, -, -, -⟩ := Rd.shape O1.toks
  have T1 : Hid (Toks w1 (.slice a1 l.length d1) l) := hidden O1.toks
  clear O1
  go_wp2_with fail
  refine (hen.out _ _ T1.out).mono ?_
  rintro e2 w2 he2
  obtain ⟨v2, rfl, O2, g2⟩ := he2
  obtain ⟨a2, d2, rfl, -, -, -⟩ := Rd.shape O2.rd
  have o2 := hidden (own_mono O2 g1.size)
  have x2 := hidden (g1.trans g2)
  clear O2 g1 g2
  go_wp2_with fail
  go_ret2
  exact ⟨_, rfl, o2.out, x2.out⟩

set_option maxRecDepth 100000 in
set_option maxHeartbeats 4000000 in
theorem ParseReturns_law (v : Value) (D : List Int) (hb : Bytes D) (w : World) (h : Rd8 w v D) :
    Calls Try.prog 9 #[v] w fun x w' => x = .returned (.bool true) ∧ Ext w w' := by
  have haw := hidden pawake_any
  obtain ⟨a, cap, rfl, q1, q2, q3⟩ := Rd.shape h
  by_cases k : 120 < D.length
  · obtain ⟨n, hn⟩ : ∃ n, D.length = n := ⟨_, rfl⟩
    rw [hn] at k q1 ⊢
    clear h hb hn
    go_enter Try.func9, Try.ntmps9
    go_wp2_with fail
    refine (haw.out _).mono ?_
    rintro e1 w1 ⟨rfl, g1⟩
    go_wp2_with fail
    go_ret
    exact ⟨rfl, g1⟩
  · have c1 := pforward_ok (.slice a D.length cap) D hb (by omega) w h
    obtain ⟨-, hok, hln, -, hex, -⟩ := fac_all hb (by omega) (opF_fac hb)
    obtain ⟨-, hdc, hlen, hlX, hbX⟩ := enc_opt hb (by omega)
    have c3 := fun W hW => popt_any (.slice a D.length cap) D hb (by omega) W hW
    rw [show optE D = (0, opF D, (poF D).getD 0 0) by unfold optE; rw [if_neg (by omega)]] at c3
    obtain ⟨X, hX⟩ : ∃ X, pshs [] 0 (tbs (opF D)) = X := ⟨_, rfl⟩
    rw [hX] at c1 hdc hlen hlX hbX
    have c2 := fun u W hW => pinverse_ok u X D (opF D) hbX hlX hdc hok hex W hW
    have hp0 := (poF_nn D).get 0
    have hp1 := opF_sum hb
    have hp2 := sumP_bd (opF D)
    obtain ⟨z, hz⟩ : ∃ z, (poF D).getD 0 0 = z := ⟨_, rfl⟩
    rw [hz] at c3 hlen hp0 hp1
    obtain ⟨n, hn⟩ : ∃ n, D.length = n := ⟨_, rfl⟩
    obtain ⟨m, hm⟩ : ∃ m, X.length = m := ⟨_, rfl⟩
    have hz1 : z ≤ 100000 := by omega
    have H : Hid (Rd8 w (.slice a n cap) D) := hidden (by rw [← hn]; exact h)
    rw [hm] at hlen
    rw [hn] at k q1 c1 c3 ⊢
    have hbD : Hid (Bytes D) := hidden hb
    replace c1 := hidden c1
    replace c2 := hidden c2
    replace c3 := hidden c3
    replace hm := hidden hm
    have hlen2 : ((m : Int) == (z + 7) / 8) = true := by simp [hlen]
    have vz : IntKind.i64.wrap (z + 7) = z + 7 := IntWalk.i64_in _ (by omega)
    have hz7 : 0 ≤ z + 7 := by omega
    replace hlen := hidden hlen
    clear h hb hX hdc hbX hok hex hln hp1 hp2 hz hn
    go_enter Try.func9, Try.ntmps9
    go_wp2_with fail
    refine c1.out.mono ?_
    rintro e1 w1 he1
    obtain ⟨v1, rfl, O1, g1⟩ := he1
    obtain ⟨a1, d1, rfl, -, -, -⟩ := Rd.shape O1.rd
    have hr1 : Rd8 w1 (.slice a1 X.length d1) X := O1.rd
    rw [hm.out] at hr1 ⊢
    replace hr1 := hidden hr1
    have X1 := hidden g1
    clear O1 g1
    go_wp2_with fail
    refine (c2.out _ _ hr1.out).mono ?_
    rintro e2 w2 he2
    obtain ⟨v2, rfl, O2, g2⟩ := he2
    obtain ⟨a2, d2, rfl, -, -, -⟩ := Rd.shape O2.rd
    have hr2 : Hid (Rd8 w2 (.slice a2 D.length d2) D) := hidden O2.rd
    have X2 := hidden (X1.out.trans g2)
    clear O2 g2 hr1 X1
    go_wp2_with fail
    refine (c3.out _ (Rd.ext H.out X2.out)).mono ?_
    rintro e3 w3 he3
    obtain ⟨v3, rfl, O3, g3⟩ := he3
    obtain ⟨a3, d3, rfl, -, -, -⟩ := Rd.shape O3.toks
    have hr3 : Hid (Rd8 w3 (.slice a2 D.length d2) D) := hidden (Rd.ext hr2.out g3)
    have X3 := hidden (X2.out.trans g3)
    clear O3 g3 hr2 X2
    go_wp2_with fail
    refine (haw.out _).mono ?_
    rintro e4 w4 ⟨rfl, g4⟩
    have hr4 : Hid (Rd8 w4 (.slice a2 D.length d2) D) := hidden (Rd.ext hr3.out g4)
    have X4 := hidden (X3.out.trans g4)
    clear g4 hr3 X3
    go_wp2_with fail
    refine (bequal_any _ _ D D hbD.out hbD.out _ hr4.out (Rd.ext H.out X4.out)).mono ?_
    rw [decide_eq_true rfl]
    rintro e5 w5 ⟨rfl, g5⟩
    have X5 := hidden (X4.out.trans g5)
    clear g5
    go_wp2_with fail
    go_ret
    exact ⟨rfl, X5.out⟩
end Go.Proofs.Ytjfdmhdmadnkoaa
