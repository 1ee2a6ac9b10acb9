import Derived.Test.YtgjjklajipekdaaGreatZy
namespace Go.Proofs.YtgjjklajipekdaaGreat
set_option maxHeartbeats 16000000
set_option maxRecDepth 100000
open Go.RowKit
set_option linter.unusedVariables false
set_option linter.unusedSimpArgs false
attribute [local go_sem ↓] Go.wp_at_zero Go.wp_at_succ
def oAr : Out → List (List Int)
 | .error _ => []
 | .ok r => r.1
def oCx : Out → List Int
 | .error _ => []
 | .ok r => r.2.1
def oOu : Out → List Int
 | .error _ => []
 | .ok r => r.2.2.1
def oSt : Out → Int
 | .error _ => 0
 | .ok r => r.2.2.2
def oEr : Out → Int
 | .error e => e
 | .ok _ => 0
theorem feed_all {w : World} {R : Out} {x : Ending} {w' : World} (h : FeedP w R x w') : ∃ (a1 a2 a3 : Option Addr) (n1 n2 n3 c1 c2 c3 : Nat), x = .returned (.tuple #[.agg #[.slice a1 n1 c1, .slice a2 n2 c2, .slice a3 n3 c3, .int .i64 (oSt R)], .int .i64 (oEr R)]) ∧ MemR w' (.slice a1 n1 c1) (.slice a2 n2 c2) (oAr R) (oCx R) ∧ Rd w' 1 (.slice a3 n3 c3) (oOu R).length ((oOu R).map (Value.int .u8)) ∧ Ext w w' := by
 cases R with
 | error e =>
  obtain ⟨h1, h2⟩ := h
  exact ⟨none, none, none, 0, 0, 0, 0, 0, 0, h1, ⟨[], rd_none _ _, (fun i v a hv => by simp at hv), rd_none _ _⟩, rd_none _ _, h2⟩
 | ok r =>
  obtain ⟨va, vc, vo, h1, h2, h3, h4⟩ := h
  obtain ⟨a1, c1, a2, c2, rfl, rfl⟩ := h2.shape _ _ rfl rfl
  obtain ⟨a3, c3, rfl, -⟩ := Rd.shape h3
  exact ⟨a1, a2, a3, _, _, _, c1, c2, c3, h1, h2, h3, h4⟩
theorem feed_ob {A : List (Bool × Int)} {L : Int} {C : List (Int × Int)} {D : List Int} {fu : Int} (hC : OkI C) (hD : ∀ x ∈ D, 0 ≤ x ∧ x ≤ 255) : ∀ x ∈ oOu (feedR A L C D fu), 0 ≤ x ∧ x ≤ 255 := by
 cases hR : feedR A L C D fu with
 | error e => intro x hx; cases hx
 | ok r =>
  obtain ⟨ar, cx, out, st⟩ := r
  exact (feedR_fuel (fu' := 0) hC hD hR (Int.le_refl _) (by decide)).2.2.1
def LightP (w : World) (x : Ending) (w' : World) : Prop := ∃ b : Bool, x = .returned (.bool b) ∧ Ext w w'
theorem rlight_any (fu : Int) (w : World) : Calls Tryz.prog 18 #[.int .i64 fu] w (LightP w) := by
 go_enter Tryz.func18, Tryz.ntmps18
 by_cases h1 : fu ≤ 5000
 ·have hd1 : decide (fu ≤ 5000) = true := decide_eq_true h1
  go_wp2_with fail
  go_ret
  exact ⟨_, rfl, Ext.refl w⟩
 ·have hd1 : decide (fu ≤ 5000) = false := decide_eq_false h1
  by_cases h2 : 281474976710656 < fu
  ·have hd2 : decide (281474976710656 < fu) = true := decide_eq_true h2
   go_wp2_with fail
   go_ret
   exact ⟨_, rfl, Ext.refl w⟩
  ·have hd2 : decide (281474976710656 < fu) = false := decide_eq_false h2
   go_wp2_with fail
   go_ret
   exact ⟨_, rfl, Ext.refl w⟩
theorem InterpreterFeeds_law (va : Value) (A : List (Bool × Int)) (L : Int) (vc : Value) (C : List (Int × Int)) (vd : Value) (D : List Int) (fu : Int) (hA : OkA A) (hL0 : -9223372036854775808 ≤ L) (hL1 : L ≤ 9223372036854775807) (hC : OkI C) (hD : ∀ x ∈ D, 0 ≤ x ∧ x ≤ 255) (hf0 : -9223372036854775808 ≤ fu) (hf1 : fu ≤ 9223372036854775807) (w : World) (ra : Rd w 2 va A.length (A.flatMap cA)) (rc : Rd w 2 vc C.length (C.flatMap cI)) (rd : Rd w 1 vd D.length (D.map (Value.int .u8))) :
  Calls Tryz.prog 5 #[.agg #[va, .int .i64 L, vc], vd, .int .i64 fu] w fun x w' => x = .returned (.bool true) ∧ Ext w w' := by
 have hfw := hidden (fun (W : World) (h : Ext w W) => fewP_any va vc A L C W (Rd.ext ra h) (Rd.ext rc h))
 have haw := hidden awake_any
 have hli := hidden (fun (W : World) => rlight_any fu W)
 have hr1 := fun (W : World) (h : Ext w W) => ifeed_any va vc vd A L C D fu hA hC hL0 hL1 hf0 hf1 hD W (Rd.ext ra h) (Rd.ext rc h) (Rd.ext rd h)
 have hr2 := fun (W : World) (h : Ext w W) => rfeed_any va vc vd A L C D fu hA hC hL0 hL1 hf0 hf1 hD W (Rd.ext ra h) (Rd.ext rc h) (Rd.ext rd h)
 have hob := feed_ob (A := A) (L := L) (fu := fu) hC hD
 generalize feedR A L C D fu = R at hr1 hr2 hob
 replace hr1 := hidden hr1
 replace hr2 := hidden hr2
 replace hob := hidden hob
 obtain ⟨aa, ca, rfl, -⟩ := Rd.shape ra
 obtain ⟨ac, cc, rfl, -⟩ := Rd.shape rc
 obtain ⟨ad, cd, rfl, -⟩ := Rd.shape rd
 obtain ⟨m0, hm⟩ := ex A.length
 obtain ⟨n0, hn⟩ := ex C.length
 obtain ⟨dl, hdl⟩ := ex D.length
 simp only [hm, hn, hdl] at hfw hr1 hr2 ⊢
 clear ra rc rd hm hn hdl hA hC hD
 have hE := hidden (Ext.refl w)
 go_enter Tryz.func5, Tryz.ntmps5
 obtain ⟨b, hb⟩ := ex w.heap.size
 obtain ⟨V0, h0, XN, BN⟩ := alx w #[.slice aa m0 ca, .int .i64 L, .slice ac n0 cc] [.slice aa m0 ca, .int .i64 L, .slice ac n0 cc] 25 b hb
 replace hE := hidden (hE.out.trans XN)
 have Bb := hidden BN
 clear BN XN
 replace h0 := hidden h0
 go_upto_region 1 with fail
 rw [h0.out]
 clear h0 hb
 obtain ⟨k0, k1, k2⟩ := Bb.out.c3
 go_wp2_with fail
 refine (hfw.out V0 hE.out).mono ?_
 rintro x w1 ⟨⟨few, rfl, -⟩, hX⟩
 clear k0 k1 k2
 replace Bb := hidden (Bb.out.ext hX)
 replace hE := hidden (hE.out.trans hX)
 clear hX hfw
 cases few with
 | false =>
  go_wp2_with fail
  refine (haw.out _).mono ?_
  rintro x z ⟨rfl, h⟩
  go_wp2_with fail
  go_ret
  exact ⟨rfl, hE.out.trans h⟩
 | true =>
  by_cases hl : 40 < dl
  ·have hlI : (40 : Int) < (dl : Int) := by omega
   go_wp2_with fail
   refine (haw.out _).mono ?_
   rintro x z ⟨rfl, h⟩
   go_wp2_with fail
   go_ret
   exact ⟨rfl, hE.out.trans h⟩
  ·have hlI : ¬ (40 : Int) < (dl : Int) := by omega
   obtain ⟨k0, k1, k2⟩ := Bb.out.c3
   go_wp2_with fail
   refine (hli.out w1).mono ?_
   rintro x w3 ⟨lb, rfl, hX⟩
   clear k0 k1 k2
   replace Bb := hidden (Bb.out.ext hX)
   replace hE := hidden (hE.out.trans hX)
   clear hX hli
   cases lb with
   | false =>
    go_wp2_with fail
    refine (haw.out _).mono ?_
    rintro x z ⟨rfl, h⟩
    go_wp2_with fail
    go_ret
    exact ⟨rfl, hE.out.trans h⟩
   | true =>
    obtain ⟨k0, k1, k2⟩ := Bb.out.c3
    go_wp2_with fail
    refine (hr1.out w3 hE.out).mono ?_
    intro x w4 hP
    obtain ⟨a11, a12, a13, n11, n12, n13, c11, c12, c13, rfl, hM1, hO1, hX⟩ := feed_all hP
    clear hP hr1 k0 k1 k2
    replace Bb := hidden (Bb.out.ext hX)
    replace hE := hidden (hE.out.trans hX)
    replace hM1 := hidden hM1
    replace hO1 := hidden hO1
    clear hX
    obtain ⟨p, hp⟩ := ex w4.heap.size
    obtain ⟨V3, h3, XN, BN⟩ := alx w4 #[.slice a11 n11 c11, .slice a12 n12 c12, .slice a13 n13 c13, .int .i64 (oSt R)] [.slice a11 n11 c11, .slice a12 n12 c12, .slice a13 n13 c13, .int .i64 (oSt R)] 48 p hp
    replace Bb := hidden (Bb.out.ext XN)
    replace hM1 := hidden (hM1.out.ext XN)
    replace hO1 := hidden (Rd.ext hO1.out XN)
    replace hE := hidden (hE.out.trans XN)
    have Bp := hidden BN
    clear BN XN
    replace h3 := hidden h3
    go_upto_region 4 with fail
    rw [h3.out]
    clear h3 hp
    obtain ⟨k0, k1, k2⟩ := Bb.out.c3
    go_wp2_with fail
    refine (hr2.out V3 hE.out).mono ?_
    intro x w6 hP
    obtain ⟨a21, a22, a23, n21, n22, n23, c21, c22, c23, rfl, hM2, hO2, hX⟩ := feed_all hP
    clear hP hr2 k0 k1 k2
    replace Bp := hidden (Bp.out.ext hX)
    replace hM1 := hidden (hM1.out.ext hX)
    replace hO1 := hidden (Rd.ext hO1.out hX)
    replace hE := hidden (hE.out.trans hX)
    replace hM2 := hidden hM2
    replace hO2 := hidden hO2
    clear hX
    obtain ⟨q, hq⟩ := ex w6.heap.size
    obtain ⟨V4, h4, XN, BN⟩ := alx w6 #[.slice a21 n21 c21, .slice a22 n22 c22, .slice a23 n23 c23, .int .i64 (oSt R)] [.slice a21 n21 c21, .slice a22 n22 c22, .slice a23 n23 c23, .int .i64 (oSt R)] 48 q hq
    replace Bp := hidden (Bp.out.ext XN)
    replace hM1 := hidden (hM1.out.ext XN)
    replace hO1 := hidden (Rd.ext hO1.out XN)
    replace hM2 := hidden (hM2.out.ext XN)
    replace hO2 := hidden (Rd.ext hO2.out XN)
    replace hE := hidden (hE.out.trans XN)
    have Bq := hidden BN
    clear BN XN
    replace h4 := hidden h4
    go_upto_region 5 with fail
    rw [h4.out]
    clear h4 hq
    obtain ⟨u0, u1, u2, u3⟩ := Bp.out.c4
    obtain ⟨v0, v1, v2, v3⟩ := Bq.out.c4
    have hs := hidden (same22_any _ _ _ _ _ _ (oAr R) (oCx R) (oOu R) (oSt R) V4 hM1.out hM2.out hO1.out hO2.out hob.out)
    obtain ⟨st, hst⟩ := ex (oSt R)
    obtain ⟨er, her⟩ := ex (oEr R)
    rw [hst] at hs u3 v3 ⊢
    rw [her]
    replace hst := hidden hst
    replace her := hidden her
    go_wp2_with fail
    refine hs.out.mono ?_
    rintro x w8 ⟨rfl, hX⟩
    clear u0 u1 u2 u3 v0 v1 v2 v3
    replace hE := hidden (hE.out.trans hX)
    clear hX
    go_wp2_with fail
    refine (haw.out _).mono ?_
    rintro x z ⟨rfl, h⟩
    go_wp2_with fail
    go_ret
    exact ⟨rfl, hE.out.trans h⟩
end Go.Proofs.YtgjjklajipekdaaGreat
