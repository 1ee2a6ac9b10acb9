
import Derived.Test.YtgjjklajipekdaaGreatZv
import Derived.Test.YtgjjklajipekdaaGreatYzn
import Derived.Test.YtgjjklajipekdaaGreatZs
namespace Go.Proofs.YtgjjklajipekdaaGreat
set_option maxHeartbeats 16000000
set_option maxRecDepth 100000
open Go.RowKit
set_option linter.unusedVariables false
set_option linter.unusedSimpArgs false
attribute [local go_sem ↓] Go.wp_at_zero Go.wp_at_succ
def oAr : Out → List (List Int)
 | .error _ => []
 | .ok r => r.1
def oCx : Out → List Int
 | .error _ => []
 | .ok r => r.2.1
def oOu : Out → List Int
 | .error _ => []
 | .ok r => r.2.2.1
def oSt : Out → Int
 | .error _ => 0
 | .ok r => r.2.2.2
def oEr : Out → Int
 | .error e => e
 | .ok _ => 0
theorem feed_all {w : World} {R : Out} {x : Ending} {w' : World} (h : FeedP w R x w') : ∃ (a1 a2 a3 : Option Addr) (n1 n2 n3 c1 c2 c3 : Nat), x = .returned (.tuple #[.agg #[.slice a1 n1 c1, .slice a2 n2 c2, .slice a3 n3 c3, .int .i64 (oSt R)], .int .i64 (oEr R)]) ∧ MemR w' (.slice a1 n1 c1) (.slice a2 n2 c2) (oAr R) (oCx R) ∧ Rd w' 1 (.slice a3 n3 c3) (oOu R).length ((oOu R).map (Value.int .u8)) ∧ Ext w w' := by
 cases R with
 | error e =>
  obtain ⟨h1, h2⟩ := h
  exact ⟨none, none, none, 0, 0, 0, 0, 0, 0, h1, ⟨[], rd_none _ _, (fun i v a hv => by simp at hv), rd_none _ _⟩, rd_none _ _, h2⟩
 | ok r =>
  obtain ⟨va, vc, vo, h1, h2, h3, h4⟩ := h
  obtain ⟨a1, c1, a2, c2, rfl, rfl⟩ := h2.shape _ _ rfl rfl
  obtain ⟨a3, c3, rfl, -⟩ := Rd.shape h3
  exact ⟨a1, a2, a3, _, _, _, c1, c2, c3, h1, h2, h3, h4⟩
theorem exe_ob {w : World} {E : Env} {R : Out} {x : Ending} {w' : World} (h : ExeP w E R x w') : ∀ x ∈ oOu R, 0 ≤ x ∧ x ≤ 255 := by
 cases R with
 | error e => intro x hx; cases hx
 | ok r =>
  obtain ⟨va, vc, vo, s', h1, h2, h3, h4, h5, h6, h7, h8, h9⟩ := h
  intro x hx
  exact h4.outv x (by rw [h7]; exact hx)
theorem feed_ob {A : List (Bool × Int)} {L : Int} {C : List (Int × Int)} {D : List Int} {fu : Int} (hC : OkI C) (hD : ∀ x ∈ D, 0 ≤ x ∧ x ≤ 255) : ∀ x ∈ oOu (feedR A L C D fu), 0 ≤ x ∧ x ≤ 255 := by
 cases hR : feedR A L C D fu with
 | error e => intro x hx; cases hx
 | ok r =>
  obtain ⟨ar, cx, out, st⟩ := r
  exact (feedR_fuel (fu' := 0) hC hD hR (Int.le_refl _) (by decide)).2.2.1
def LightP (w : World) (x : Ending) (w' : World) : Prop := ∃ b : Bool, x = .returned (.bool b) ∧ Ext w w'
theorem rlight_any (fu : Int) (w : World) : Calls Tryz.prog 18 #[.int .i64 fu] w (LightP w) := by
 go_enter Tryz.func18, Tryz.ntmps18
 by_cases h1 : fu ≤ 5000
 ·have hd1 : decide (fu ≤ 5000) = true := decide_eq_true h1
  go_wp2_with fail
  go_ret
  exact ⟨_, rfl, Ext.refl w⟩
 ·have hd1 : decide (fu ≤ 5000) = false := decide_eq_false h1
  by_cases h2 : 281474976710656 < fu
  ·have hd2 : decide (281474976710656 < fu) = true := decide_eq_true h2
   go_wp2_with fail
   go_ret
   exact ⟨_, rfl, Ext.refl w⟩
  ·have hd2 : decide (281474976710656 < fu) = false := decide_eq_false h2
   go_wp2_with fail
   go_ret
   exact ⟨_, rfl, Ext.refl w⟩
theorem InterpreterRuns_law (va : Value) (A : List (Bool × Int)) (L : Int) (vc : Value) (C : List (Int × Int)) (ma : Value) (M : List (Value × List Int)) (mc : Value) (cx : List Int) (inp : Int) (en : Bool) (fu : Int) (hA : OkA A) (hL0 : -9223372036854775808 ≤ L) (hL1 : L ≤ 9223372036854775807) (hC : OkI C) (hcx : ∀ z ∈ cx, 0 ≤ z ∧ z ≤ 4294967295) (hi0 : 0 ≤ inp) (hi1 : inp ≤ 4294967295) (hf0 : -9223372036854775808 ≤ fu) (hf1 : fu ≤ 9223372036854775807) (w : World) (ra : Rd w 2 va A.length (A.flatMap cA)) (rc : Rd w 2 vc C.length (C.flatMap cI)) (rm : Rd w 1 ma M.length (M.flatMap fun x => [x.1])) (hMM : ∀ x ∈ M, Rd w 1 x.1 x.2.length (x.2.map (Value.int .u32)) ∧ ∀ z ∈ x.2, 0 ≤ z ∧ z ≤ 4294967295) (rcx : Rd w 1 mc cx.length (cx.map (Value.int .u32))) :
  Calls Tryz.prog 4 #[.agg #[va, .int .i64 L, vc], .agg #[ma, mc], .agg #[.int .u32 inp, .bool en, .int .i64 fu]] w fun x w' => x = .returned (.bool true) ∧ Ext w w' := by
 obtain ⟨hM, hau⟩ := mem_in rm hMM rcx
 generalize M.map (·.2) = ar at hM hau
 have hfw := hidden (fun (W : World) (h : Ext w W) => fewP_any va vc A L C W (Rd.ext ra h) (Rd.ext rc h))
 have hfm := hidden (fun (W : World) (h : Ext w W) => fewmem_any ma mc ar cx W (hM.ext h))
 have haw := hidden awake_any
 have hli := hidden (fun (W : World) => rlight_any fu W)
 have hr10 := fun (hal : ∀ a ∈ ar, a.length ≤ 300) (W : World) (h : Ext w W) => irunf_any va vc ma mc A L C ar cx inp en fu hA hC hL0 hL1 hf0 hf1 ⟨hi0, hi1⟩ hau hcx (fun a ha => by have := hal a ha; omega) W (Rd.ext ra h) (Rd.ext rc h) (hM.ext h)
 have hr20 := fun (hal : ∀ a ∈ ar, a.length ≤ 300) (W : World) (h : Ext w W) => rrunf_any va vc ma mc A L C ar cx inp en fu hA hC hL0 hL1 hf0 hf1 ⟨hi0, hi1⟩ hau hcx (fun a ha => by have := hal a ha; omega) W (Rd.ext ra h) (Rd.ext rc h) (hM.ext h)
 generalize runR A L C ar cx inp en fu = R at hr10 hr20
 generalize envOf A L C inp en fu = E at hr10 hr20
 replace hr10 := hidden hr10
 replace hr20 := hidden hr20
 obtain ⟨rl, hrl⟩ := ex ar.length
 obtain ⟨xl, hxl⟩ := ex cx.length
 obtain ⟨am, cm, ax, cx0, rfl, rfl⟩ := hM.shape rl xl hrl hxl
 obtain ⟨aa, ca, rfl, -⟩ := Rd.shape ra
 obtain ⟨ac, cc, rfl, -⟩ := Rd.shape rc
 obtain ⟨m0, hm⟩ := ex A.length
 obtain ⟨n0, hn⟩ := ex C.length
 simp only [hm, hn] at hfw hr10 hr20 ⊢
 clear ra rc hm hn hA hC hM rm hMM rcx hau hcx hrl hxl hi0 hi1
 have hE := hidden (Ext.refl w)
 go_enter Tryz.func4, Tryz.ntmps4
 obtain ⟨b, hb⟩ := ex w.heap.size
 obtain ⟨V0, hV0V, XN, BN⟩ := alx w #[.slice aa m0 ca, .int .i64 L, .slice ac n0 cc] [.slice aa m0 ca, .int .i64 L, .slice ac n0 cc] 25 b hb
 replace hE := hidden (hE.out.trans XN)
 have Bb := hidden BN
 clear BN
 clear XN
 replace hV0V := hidden hV0V
 have hbI := hidden hb
 obtain ⟨d, hd⟩ := ex V0.heap.size
 obtain ⟨V1, hV1V, XN, BN⟩ := alx V0 #[.slice am rl cm, .slice ax xl cx0] [.slice am rl cm, .slice ax xl cx0] 29 d hd
 replace Bb := hidden (Bb.out.ext XN)
 replace hE := hidden (hE.out.trans XN)
 have Bd := hidden BN
 clear BN
 clear XN
 replace hV1V := hidden hV1V
 have hd2 : b + 1 = d := by
  have h1 : V0.heap.size = w.heap.size + 1 := by rw [← hV0V.out]; exact Array.size_push ..
  have h2 := hbI.out
  omega
 have hdI := hidden hd
 replace hd2 := hidden hd2
 obtain ⟨e, he⟩ := ex V1.heap.size
 obtain ⟨V2, hV2V, XN, BN⟩ := alx V1 #[.int .u32 inp, .bool en, .int .i64 fu] [.int .u32 inp, .bool en, .int .i64 fu] 44 e he
 replace Bb := hidden (Bb.out.ext XN)
 replace Bd := hidden (Bd.out.ext XN)
 replace hE := hidden (hE.out.trans XN)
 have Be := hidden BN
 clear BN
 clear XN
 replace hV2V := hidden hV2V
 have he2 : d + 1 = e := by
  have h1 : V1.heap.size = V0.heap.size + 1 := by rw [← hV1V.out]; exact Array.size_push ..
  have h2 := hdI.out
  omega
 replace he2 := hidden he2
 clear hd he
 go_upto_region 1 with fail
 rw [hV0V.out, hV1V.out, hV2V.out, hd2.out, he2.out]
 clear hV0V hV1V hV2V hb hbI hd2 hdI he2
 obtain ⟨cb0, cb1, cb2⟩ := Bb.out.c3
 obtain ⟨cd0, cd1⟩ := Bd.out.c2
 obtain ⟨ce0, ce1, ce2⟩ := Be.out.c3
 go_wp2_with fail
 refine (hfw.out V2 hE.out).mono ?_
 rintro x w1 ⟨⟨few, rfl, -⟩, hX⟩
 clear cb0 cb1 cb2 cd0 cd1 ce0 ce1 ce2
 replace Bb := hidden (Bb.out.ext hX)
 replace Bd := hidden (Bd.out.ext hX)
 replace Be := hidden (Be.out.ext hX)
 replace hE := hidden (hE.out.trans hX)
 clear hX hfw
 cases few with
 | false =>
  go_wp2_with fail
  refine (haw.out _).mono ?_
  rintro x wz ⟨rfl, hX⟩
  go_wp2_with fail
  go_ret
  exact ⟨rfl, hE.out.trans hX⟩
 | true =>
  obtain ⟨cb0, cb1, cb2⟩ := Bb.out.c3
  obtain ⟨cd0, cd1⟩ := Bd.out.c2
  obtain ⟨ce0, ce1, ce2⟩ := Be.out.c3
  go_wp2_with fail
  refine (hfm.out w1 hE.out).mono ?_
  rintro x w2 ⟨⟨fm, rfl, hfm2⟩, hX⟩
  clear cb0 cb1 cb2 cd0 cd1 ce0 ce1 ce2
  replace Bb := hidden (Bb.out.ext hX)
  replace Bd := hidden (Bd.out.ext hX)
  replace Be := hidden (Be.out.ext hX)
  replace hE := hidden (hE.out.trans hX)
  clear hX hfm
  cases fm with
  | false =>
   go_wp2_with fail
   refine (haw.out _).mono ?_
   rintro x wz ⟨rfl, hX⟩
   go_wp2_with fail
   go_ret
   exact ⟨rfl, hE.out.trans hX⟩
  | true =>
   have hal := hfm2 rfl
   have hr1 := hidden (hr10.out hal)
   have hr2 := hidden (hr20.out hal)
   clear hfm2 hr10 hr20 hal
   obtain ⟨cb0, cb1, cb2⟩ := Bb.out.c3
   obtain ⟨cd0, cd1⟩ := Bd.out.c2
   obtain ⟨ce0, ce1, ce2⟩ := Be.out.c3
   go_wp2_with fail
   refine (hli.out w2).mono ?_
   rintro x w3 ⟨lb, rfl, hX⟩
   clear cb0 cb1 cb2 cd0 cd1 ce0 ce1 ce2
   replace Bb := hidden (Bb.out.ext hX)
   replace Bd := hidden (Bd.out.ext hX)
   replace Be := hidden (Be.out.ext hX)
   replace hE := hidden (hE.out.trans hX)
   clear hX hli
   cases lb with
   | false =>
    go_wp2_with fail
    refine (haw.out _).mono ?_
    rintro x wz ⟨rfl, hX⟩
    go_wp2_with fail
    go_ret
    exact ⟨rfl, hE.out.trans hX⟩
   | true =>
    obtain ⟨cb0, cb1, cb2⟩ := Bb.out.c3
    obtain ⟨cd0, cd1⟩ := Bd.out.c2
    obtain ⟨ce0, ce1, ce2⟩ := Be.out.c3
    go_wp2_with fail
    refine (hr1.out w3 hE.out).mono ?_
    intro x w4 hP
    have hob := hidden (exe_ob hP)
    obtain ⟨a11, a12, a13, n11, n12, n13, c11, c12, c13, rfl, hM1, hO1, hX⟩ := feed_all (exe_feed hP)
    clear hP hr1
    clear cb0 cb1 cb2 cd0 cd1 ce0 ce1 ce2
    replace Bb := hidden (Bb.out.ext hX)
    replace Bd := hidden (Bd.out.ext hX)
    replace Be := hidden (Be.out.ext hX)
    replace hE := hidden (hE.out.trans hX)
    replace hM1 := hidden hM1
    replace hO1 := hidden hO1
    clear hX
    obtain ⟨p, hp⟩ := ex w4.heap.size
    obtain ⟨V3, hV3V, XN, BN⟩ := alx w4 #[.slice a11 n11 c11, .slice a12 n12 c12, .slice a13 n13 c13, .int .i64 (oSt R)] [.slice a11 n11 c11, .slice a12 n12 c12, .slice a13 n13 c13, .int .i64 (oSt R)] 48 p hp
    replace Bb := hidden (Bb.out.ext XN)
    replace Bd := hidden (Bd.out.ext XN)
    replace Be := hidden (Be.out.ext XN)
    replace hM1 := hidden (hM1.out.ext XN)
    replace hO1 := hidden (Rd.ext hO1.out XN)
    replace hE := hidden (hE.out.trans XN)
    have Bp := hidden BN
    clear BN
    clear XN
    replace hV3V := hidden hV3V
    go_upto_region 4 with fail
    rw [hV3V.out]
    clear hV3V hp
    obtain ⟨cb0, cb1, cb2⟩ := Bb.out.c3
    obtain ⟨cd0, cd1⟩ := Bd.out.c2
    obtain ⟨ce0, ce1, ce2⟩ := Be.out.c3
    go_wp2_with fail
    refine (hr2.out V3 hE.out).mono ?_
    intro x w6 hP
    obtain ⟨a21, a22, a23, n21, n22, n23, c21, c22, c23, rfl, hM2, hO2, hX⟩ := feed_all (exe_feed hP)
    clear hP hr2
    clear cb0 cb1 cb2 cd0 cd1 ce0 ce1 ce2
    replace Bb := hidden (Bb.out.ext hX)
    replace Bd := hidden (Bd.out.ext hX)
    replace Be := hidden (Be.out.ext hX)
    replace Bp := hidden (Bp.out.ext hX)
    replace hM1 := hidden (hM1.out.ext hX)
    replace hO1 := hidden (Rd.ext hO1.out hX)
    replace hE := hidden (hE.out.trans hX)
    replace hM2 := hidden hM2
    replace hO2 := hidden hO2
    clear hX
    obtain ⟨q, hq⟩ := ex w6.heap.size
    obtain ⟨V4, hV4V, XN, BN⟩ := alx w6 #[.slice a21 n21 c21, .slice a22 n22 c22, .slice a23 n23 c23, .int .i64 (oSt R)] [.slice a21 n21 c21, .slice a22 n22 c22, .slice a23 n23 c23, .int .i64 (oSt R)] 48 q hq
    replace Bb := hidden (Bb.out.ext XN)
    replace Bd := hidden (Bd.out.ext XN)
    replace Be := hidden (Be.out.ext XN)
    replace Bp := hidden (Bp.out.ext XN)
    replace hM1 := hidden (hM1.out.ext XN)
    replace hO1 := hidden (Rd.ext hO1.out XN)
    replace hM2 := hidden (hM2.out.ext XN)
    replace hO2 := hidden (Rd.ext hO2.out XN)
    replace hE := hidden (hE.out.trans XN)
    have Bq := hidden BN
    clear BN
    clear XN
    replace hV4V := hidden hV4V
    go_upto_region 5 with fail
    rw [hV4V.out]
    clear hV4V hq
    obtain ⟨cp0, cp1, cp2, cp3⟩ := Bp.out.c4
    obtain ⟨cq0, cq1, cq2, cq3⟩ := Bq.out.c4
    have hs := hidden (same22_any _ _ _ _ _ _ (oAr R) (oCx R) (oOu R) (oSt R) V4 hM1.out hM2.out hO1.out hO2.out hob.out)
    obtain ⟨st, hst⟩ := ex (oSt R)
    obtain ⟨er, her⟩ := ex (oEr R)
    rw [hst] at hs cp3 cq3 ⊢
    rw [her]
    replace hst := hidden hst
    replace her := hidden her
    go_wp2_with fail
    refine hs.out.mono ?_
    rintro x w8 ⟨rfl, hX⟩
    clear cp0 cp1 cp2 cp3 cq0 cq1 cq2 cq3
    replace Bb := hidden (Bb.out.ext hX)
    replace Bd := hidden (Bd.out.ext hX)
    replace Be := hidden (Be.out.ext hX)
    replace Bp := hidden (Bp.out.ext hX)
    replace Bq := hidden (Bq.out.ext hX)
    replace hM1 := hidden (hM1.out.ext hX)
    replace hO1 := hidden (Rd.ext hO1.out hX)
    replace hM2 := hidden (hM2.out.ext hX)
    replace hO2 := hidden (Rd.ext hO2.out hX)
    replace hE := hidden (hE.out.trans hX)
    clear hX
    go_wp2_with fail
    refine (haw.out _).mono ?_
    rintro x wz ⟨rfl, hX⟩
    go_wp2_with fail
    go_ret
    exact ⟨rfl, hE.out.trans hX⟩
end Go.Proofs.YtgjjklajipekdaaGreat
