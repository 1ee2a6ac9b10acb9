/- Layer 35: code and Encode of the reference. -/
import Derived.Test.YtlnlffmlficjnaaLj
import Derived.Test.YtlnlffmlficjnaaBz
namespace Go.Proofs.Ytlnlffmlficjnaa
open Go.RowKit
set_option linter.unusedVariables false
attribute [local go_sem ↓] Go.wp_at_zero Go.wp_at_succ

/-- A bit string and no error. -/
def BitP (W : World) (D : List Int) (c : Nat) (x : Ending) (w' : World) : Prop :=
  ∃ a m k, x = .returned (.tuple #[.agg #[.slice a m k, .int .i64 (c : Int)], .int .i64 0]) ∧ Rd8 w' (.slice a m k) D ∧ Fresh W (.slice a m k) ∧ Ext W w'
theorem BitP.of {w : World} {r : Int × List Int × Nat} {x : Ending} {w' : World} (h : BitsPost w r x w') {D : List Int} {c : Nat} (hr : r = (0, D, c)) : BitP w D c x w' := by
  subst hr
  obtain ⟨a, k, h1, h2, h3, h4⟩ := h
  exact ⟨_, _, _, h1, h2, h3, h4⟩
theorem rap_ok (v : Value) (D : List Int) (c n : Nat) (y : Int) (hW : WF D c) (hc : c ≤ 390000) (hn : n ≤ 32) (hy0 : 0 ≤ y) (hy1 : y ≤ 4294967295) (hy : y < 2 ^ n) (w : World) (h : Rd8 w v D) :
    Calls Try.prog 44 #[.agg #[v, .int .i64 (c : Int)], .int .u32 y, .int .i64 (n : Int)] w fun x w' => BitP w (pshs D c (low y n)) (c + n) x w' := by
  have hl := hW.len
  refine (rappend_any v D c y n hW.bytes (by omega) (by omega) (by omega) hy0 hy1 (by omega) (by omega) w h).mono ?_
  intro x w' hx
  refine BitP.of hx ?_
  unfold appF
  rw [if_neg (by rw [wf_chkb hW (by omega)]; decide), if_neg (by omega), if_neg (by simp; omega), if_neg (by omega)]
  simp
theorem rga_ok (v : Value) (D : List Int) (c : Nat) (n : Int) (hW : WF D c) (hc : c ≤ 390000) (h0 : 1 ≤ n) (h1 : n ≤ 4096) (w : World) (h : Rd8 w v D) :
    Calls Try.prog 45 #[.agg #[v, .int .i64 (c : Int)], .int .i64 n] w fun x w' => BitP w (pshs D c (gam n)) (c + (gam n).length) x w' := by
  have hl := hW.len
  obtain ⟨m, hm, hm2⟩ := bl_bd n 13 h0 (by omega) (by decide)
  have hgl := gam_len n m hm
  refine (rgam_any v D c n hW.bytes (by omega) (by omega) (by omega) (by omega) (by omega) w h).mono ?_
  intro x w' hx
  refine BitP.of hx ?_
  unfold gamF
  rw [if_neg (by rw [wf_chkb hW (by omega)]; decide), if_neg (by omega), if_neg (by rw [hm]; omega), hm, hgl]
  simp
  omega
theorem Rd8.set {w : World} {v : Value} {D : List Int} (h : Rd8 w v D) {p : Nat} (hp : v.ownBlock ≠ Option.some p) (i : Nat) (u : Value) : Rd8 (w.setCell ⟨p, i, none⟩ u) v D :=
  Rd.chg h ((Chg.refl [p] w).setCell (p := ⟨p, i, none⟩) (Or.inl (by simp)) u) (fun x hx _ => by simp at hx; subst hx; exact hp)

/-- What lies in memory while a token's code is appended. -/
structure CdS (w W : World) (q : Nat) (v : Value) (D : List Int) (c : Nat) (L Ds B : Int) : Prop where
  bx : Blk W q 57 [v, .int .i64 (c : Int)]
  tk : Blk W (q + 1) 27 [.int .i64 L, .int .i64 Ds, .int .u8 B]
  rs : Blk W (q + 2) 57 [.slice none 0 0, .int .i64 0]
  rd : Rd8 W v D
  wf : WF D c
  ext : Ext w W
  low : w.heap.size ≤ q
theorem CdS.step {w W W' : World} {q : Nat} {v v' : Value} {D D' : List Int} {c c' : Nat} {L Ds B : Int} (h : CdS w W q v D c L Ds B) (hE : Ext W W') (hF : Fresh W v') (hR : Rd8 W' v' D') (hW : WF D' c') :
    CdS w ((W'.setCell ⟨q, 0, none⟩ v').setCell ⟨q, 1, none⟩ (.int .i64 (c' : Int))) q v' D' c' L Ds B := by
  have hq := h.bx.lt
  refine ⟨((h.bx.ext hE).set 0 _).set 1 _, ((h.tk.ext hE).set_other (by omega) _).set_other (by omega) _, ((h.rs.ext hE).set_other (by omega) _).set_other (by omega) _, ?_, hW, ?_, h.low⟩
  · exact (hR.set (hF q hq) _ _).set (hF q hq) _ _
  · exact ((h.ext.trans hE).setCell (p := ⟨q, 0, none⟩) h.low _).setCell (p := ⟨q, 1, none⟩) h.low _
theorem CdS.fresh {w W : World} {v : Value} (h : Ext w W) (hF : Fresh W v) : Fresh w v := fun y hy => hF y (Nat.lt_of_lt_of_le hy h.size)

/-- What code leaves. -/
def CodeP (w : World) (D : List Int) (c : Nat) (x : Ending) (w' : World) : Prop :=
  ∃ a m k, x = .returned (.agg #[.slice a m k, .int .i64 (c : Int)]) ∧ Rd8 w' (.slice a m k) D ∧ Fresh w (.slice a m k) ∧ Ext w w'

set_option maxHeartbeats 2000000 in
theorem rcode_any (v : Value) (Da : List Int) (c : Nat) (L D Bt : Int) (hW : WF Da c) (hc : c ≤ 300000) (hr : ¬ Wr (L, D, Bt)) (hb0 : 0 ≤ Bt) (hb1 : Bt ≤ 255) (w : World) (h : Rd8 w v Da) :
    Calls Try.prog 36 #[.agg #[v, .int .i64 (c : Int)], tkv (L, D, Bt)] w (CodeP w (pshs Da c (tb (L, D, Bt))) (c + (tb (L, D, Bt)).length)) := by
  show Calls _ _ #[_, .agg #[.int .i64 L, .int .i64 D, .int .u8 Bt]] _ _
  have S0 : CdS w (((w.alloc (.cells #[v, .int .i64 (c : Int)] 57)).alloc (.cells #[.int .i64 L, .int .i64 D, .int .u8 Bt] 27)).alloc (.cells #[.slice none 0 0, .int .i64 0] 57)) w.heap.size v Da c L D Bt := by
    refine ⟨((Blk.new w [v, .int .i64 (c : Int)] _).alloc _).alloc _, ?_, ?_, ((Rd.alloc (Rd.alloc (Rd.alloc h _) _) _)), hW, (((Ext.refl w).alloc _).alloc _).alloc _, Nat.le_refl _⟩
    · exact (Blk.newAt (w.alloc (.cells #[v, .int .i64 (c : Int)] 57)) [.int .i64 L, .int .i64 D, .int .u8 Bt] 27 (w.heap.size + 1) (by simp)).alloc _
    · exact Blk.newAt ((w.alloc (.cells #[v, .int .i64 (c : Int)] 57)).alloc (.cells #[.int .i64 L, .int .i64 D, .int .u8 Bt] 27)) [.slice none 0 0, .int .i64 0] 57 (w.heap.size + 2) (by simp)
  have x0 := S0.bx.cell 0 _ rfl
  have x1 := S0.bx.cell 1 _ rfl
  have t0 := S0.tk.cell 0 _ rfl
  have t1 := S0.tk.cell 1 _ rfl
  have t2 := S0.tk.cell 2 _ rfl
  have hrs : ∀ (W : World) (v' : Value), Ext w W → w.heap.size + 2 < W.heap.size → Fresh W v' → v'.ownBlock ≠ some (w.heap.size + 2) := fun W v' _ h F => F _ h
  have hrl := S0.rs.lt
  replace S0 := hidden S0
  clear h
  by_cases k0 : L = 0
  · have hE : Hid (tb (L, D, Bt) = low Bt 9) := hidden (by show tb _ = _; unfold tb; exact if_pos k0)
    subst k0
    replace hr := hidden hr
    replace hW := hidden hW
    replace hrs := hidden hrs
    go_enter Try.func36, Try.ntmps36
    go_wp2_with fail
    refine (rap_ok v Da c 9 Bt hW.out (by omega) (by omega) hb0 (by omega) (by omega) _ S0.out.rd).mono ?_
    rintro e w1 ⟨a1, m1, k1, rfl, R1, F1, E1⟩
    have n1 := hrs.out _ _ S0.out.ext hrl F1
    have z1_0 := (S0.out.bx.ext E1).frozen 0
    have z1_1 := (S0.out.bx.ext E1).frozen 1
    have z1_2 := (S0.out.bx.ext E1).cell 0 _ rfl
    have z1_3 := (S0.out.bx.ext E1).cell 1 _ rfl
    have S1 := S0.out.step E1 F1 R1 (by have := S0.out.wf.pshs (low_01 Bt 9); rw [low_len] at this; exact this)
    have hF1 := CdS.fresh S0.out.ext F1
    obtain ⟨c1, hc1⟩ : ∃ z, c + 9 = z := ⟨_, rfl⟩
    rw [hc1] at S1 ⊢
    have u1_0 := S1.bx.cell 0 _ rfl
    have u1_1 := S1.bx.cell 1 _ rfl
    have t1_0 := S1.tk.cell 0 _ rfl
    have t1_1 := S1.tk.cell 1 _ rfl
    have u1_2 := S1.rs.cell 0 _ rfl
    have u1_3 := S1.rs.cell 1 _ rfl
    have u1_4 := S1.rs.frozen 0
    have u1_5 := S1.rs.frozen 1
    have hrl1 : w.heap.size + 2 < _ := S1.rs.lt
    replace hc1 := hidden hc1
    replace R1 := hidden R1
    replace E1 := hidden E1
    replace S1 := hidden S1
    clear x0 x1 t0 t1 t2 t1_0 t1_1
    go_wp2_with fail
    have Z4 := (S1.out.rs.set 0 (.slice a1 m1 k1)).set 1 (.int .i64 (c1 : Int))
    have q0 := Z4.cell 0 _ rfl
    have q1 := Z4.cell 1 _ rfl
    have hX := (S1.out.ext.setCell (p := ⟨w.heap.size + 2, 0, none⟩) (by simp) (.slice a1 m1 k1)).setCell (p := ⟨w.heap.size + 2, 1, none⟩) (by simp) (.int .i64 (c1 : Int))
    have hRd := (S1.out.rd.set n1 0 (.slice a1 m1 k1)).set n1 1 (.int .i64 (c1 : Int))
    refine bodyPost_ret (v := .agg #[.slice a1 m1 k1, .int .i64 (c1 : Int)]) (by simp [results, Try.results36, go_sem, q0, q1]) rfl ?_
    rw [hE.out, low_len, hc1.out]
    exact ⟨a1, m1, k1, rfl, hRd, hF1, hX⟩
  · obtain ⟨hBt, b2, b3, b4, b5⟩ := Wr_copy hr k0
    simp only at hBt b2 b3 b4 b5
    clear hBt
    have hE : Hid (tb (L, D, Bt) = 1 :: (gam (L - 1) ++ gam D)) := hidden (by show tb _ = _; unfold tb; exact if_neg k0)
    have k2 : (L == 0) = false := by simp [k0]
    obtain ⟨n1', -, -, hn1, hg1⟩ := gaB_nat (L - 1) (by omega) (by omega)
    obtain ⟨n2', -, -, hn2, hg2⟩ := gaB_nat D (by omega) (by omega)
    replace hg1 := hidden hg1
    replace hg2 := hidden hg2
    replace hr := hidden hr
    replace hW := hidden hW
    replace hrs := hidden hrs
    clear k0
    go_enter Try.func36, Try.ntmps36
    go_wp2_with fail
    refine (rap_ok v Da c 1 1 hW.out (by omega) (by omega) (by omega) (by omega) (by omega) _ S0.out.rd).mono ?_
    rintro e w1 ⟨a1, m1, k1, rfl, R1, F1, E1⟩
    have n1 := hrs.out _ _ S0.out.ext hrl F1
    have z1_0 := (S0.out.bx.ext E1).frozen 0
    have z1_1 := (S0.out.bx.ext E1).frozen 1
    have z1_2 := (S0.out.bx.ext E1).cell 0 _ rfl
    have z1_3 := (S0.out.bx.ext E1).cell 1 _ rfl
    have S1 := S0.out.step E1 F1 R1 (by have := S0.out.wf.pshs (low_01 1 1); rw [low_len] at this; exact this)
    have hF1 := CdS.fresh S0.out.ext F1
    obtain ⟨c1, hc1⟩ : ∃ z, c + 1 = z := ⟨_, rfl⟩
    rw [hc1] at S1 ⊢
    have u1_0 := S1.bx.cell 0 _ rfl
    have u1_1 := S1.bx.cell 1 _ rfl
    have t1_0 := S1.tk.cell 0 _ rfl
    have t1_1 := S1.tk.cell 1 _ rfl
    have u1_2 := S1.rs.cell 0 _ rfl
    have u1_3 := S1.rs.cell 1 _ rfl
    have u1_4 := S1.rs.frozen 0
    have u1_5 := S1.rs.frozen 1
    have hrl1 : w.heap.size + 2 < _ := S1.rs.lt
    replace hc1 := hidden hc1
    replace R1 := hidden R1
    replace E1 := hidden E1
    replace S1 := hidden S1
    have hcb1 : c1 ≤ 390000 := by have := hc1.out; omega
    clear x0 x1 t0 t1 t2
    go_wp2_with fail
    refine (rga_ok _ _ c1 (L - 1) S1.out.wf hcb1 (by omega) (by omega) _ S1.out.rd).mono ?_
    rintro e w2 ⟨a2, m2, k2x, rfl, R2, F2, E2⟩
    clear t1_0 t1_1 u1_0 u1_1 u1_2 u1_3 u1_4 u1_5 z1_0 z1_1 z1_2 z1_3
    have n2 := hrs.out _ _ S1.out.ext hrl1 F2
    have z2_0 := (S1.out.bx.ext E2).frozen 0
    have z2_1 := (S1.out.bx.ext E2).frozen 1
    have z2_2 := (S1.out.bx.ext E2).cell 0 _ rfl
    have z2_3 := (S1.out.bx.ext E2).cell 1 _ rfl
    have S2 := S1.out.step E2 F2 R2 (by have := S1.out.wf.pshs (gam_01 (L - 1)); rw [hg1.out] at this; exact this)
    have hF2 := CdS.fresh S1.out.ext F2
    rw [hg1.out]
    obtain ⟨c2, hc2⟩ : ∃ z, c1 + n1' = z := ⟨_, rfl⟩
    rw [hc2] at S2 ⊢
    have u2_0 := S2.bx.cell 0 _ rfl
    have u2_1 := S2.bx.cell 1 _ rfl
    have t2_0 := S2.tk.cell 0 _ rfl
    have t2_1 := S2.tk.cell 1 _ rfl
    have u2_2 := S2.rs.cell 0 _ rfl
    have u2_3 := S2.rs.cell 1 _ rfl
    have u2_4 := S2.rs.frozen 0
    have u2_5 := S2.rs.frozen 1
    have hrl2 : w.heap.size + 2 < _ := S2.rs.lt
    replace hc2 := hidden hc2
    replace R2 := hidden R2
    replace E2 := hidden E2
    replace S2 := hidden S2
    have hcb2 : c2 ≤ 390000 := by have := hc1.out; have := hc2.out; omega
    go_wp2_with fail
    refine (rga_ok _ _ c2 D S2.out.wf hcb2 (by omega) (by omega) _ S2.out.rd).mono ?_
    rintro e w3 ⟨a3, m3, k3, rfl, R3, F3, E3⟩
    clear t2_0 t2_1 u2_0 u2_1 u2_2 u2_3 u2_4 u2_5 z2_0 z2_1 z2_2 z2_3
    have n3 := hrs.out _ _ S2.out.ext hrl2 F3
    have z3_0 := (S2.out.bx.ext E3).frozen 0
    have z3_1 := (S2.out.bx.ext E3).frozen 1
    have z3_2 := (S2.out.bx.ext E3).cell 0 _ rfl
    have z3_3 := (S2.out.bx.ext E3).cell 1 _ rfl
    have S3 := S2.out.step E3 F3 R3 (by have := S2.out.wf.pshs (gam_01 D); rw [hg2.out] at this; exact this)
    have hF3 := CdS.fresh S2.out.ext F3
    rw [hg2.out]
    obtain ⟨c3, hc3⟩ : ∃ z, c2 + n2' = z := ⟨_, rfl⟩
    rw [hc3] at S3 ⊢
    have u3_0 := S3.bx.cell 0 _ rfl
    have u3_1 := S3.bx.cell 1 _ rfl
    have t3_0 := S3.tk.cell 0 _ rfl
    have t3_1 := S3.tk.cell 1 _ rfl
    have u3_2 := S3.rs.cell 0 _ rfl
    have u3_3 := S3.rs.cell 1 _ rfl
    have u3_4 := S3.rs.frozen 0
    have u3_5 := S3.rs.frozen 1
    have hrl3 : w.heap.size + 2 < _ := S3.rs.lt
    replace hc3 := hidden hc3
    replace R3 := hidden R3
    replace E3 := hidden E3
    replace S3 := hidden S3
    go_wp2_with fail
    have Z4 := (S3.out.rs.set 0 (.slice a3 m3 k3)).set 1 (.int .i64 (c3 : Int))
    have q0 := Z4.cell 0 _ rfl
    have q1 := Z4.cell 1 _ rfl
    have hX := (S3.out.ext.setCell (p := ⟨w.heap.size + 2, 0, none⟩) (by simp) (.slice a3 m3 k3)).setCell (p := ⟨w.heap.size + 2, 1, none⟩) (by simp) (.int .i64 (c3 : Int))
    have hRd := (S3.out.rd.set n3 0 (.slice a3 m3 k3)).set n3 1 (.int .i64 (c3 : Int))
    refine bodyPost_ret (v := .agg #[.slice a3 m3 k3, .int .i64 (c3 : Int)]) (by simp [results, Try.results36, go_sem, q0, q1]) rfl ?_
    have e8 : low 1 1 = [1] := by decide
    have hfin : pshs Da c (tb (L, D, Bt)) = pshs (pshs (pshs Da c (low 1 1)) c1 (gam (L - 1))) c2 (gam D) := by
      rw [hE.out, show (1 : Int) :: (gam (L - 1) ++ gam D) = low 1 1 ++ gam (L - 1) ++ gam D by rw [e8]; simp, pshs_app, pshs_app, List.length_append, low_len, hg1.out, ← Nat.add_assoc, hc1.out, hc2.out]
    have hlen : c + (tb (L, D, Bt)).length = c3 := by
      rw [hE.out, List.length_cons, List.length_append, hg1.out, hg2.out]
      have := hc1.out
      have := hc2.out
      have := hc3.out
      omega
    rw [hfin, hlen]
    exact ⟨a3, m3, k3, rfl, hRd, hF3, hX⟩
end Go.Proofs.Ytlnlffmlficjnaa
