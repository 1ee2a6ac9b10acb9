/- The reference's add. -/
import Derived.Test.YtlnlffmlficjnaaBs
namespace Go.Proofs.Ytlnlffmlficjnaa
open Go.RowKit
set_option linter.unusedVariables false
attribute [local go_sem ↓] Go.wp_at_zero Go.wp_at_succ

/-- What add leaves: a row that holds one bit more. -/
def AddPost (B c : Nat) (v : Value) (D : List Int) (x : Int) (w : World) (e : Ending) (w' : World) : Prop :=
  ∃ v', e = .returned (.agg #[v', .int .i64 ((c : Int) + 1)]) ∧ Own8 w' B v' (psh D c x) ∧ Stays w v v' ∧ Chg v.ownBlock.toList w w'
theorem lset_same (l : List Int) (i : Nat) (h : i < l.length) : l.set i (l.getD i 0) = l := by
  apply List.ext_getElem
  · simp
  · intro j j1 j2
    rw [List.getElem_set]
    split
    · next e => subst e; simp [List.getD, h]
    · rfl
/-- What is added to a byte. -/
def addv (c : Nat) (x : Int) : Int := x * 2 ^ (7 - c % 8)
theorem psh_set {D : List Int} {c : Nat} (h : WF D c) (x : Int) (hx : x = 0 ∨ x = 1) : psh D c x = (pshD D c).set (c / 8) ((pshD D c).getD (c / 8) 0 + addv c x) := by
  unfold psh addv
  rcases hx with rfl | rfl
  · rw [if_neg (by decide), Int.zero_mul, Int.add_zero, lset_same _ _ (psh_room h)]
  · rw [if_pos rfl, Int.one_mul]
theorem addv_bd (c : Nat) (x : Int) (hx : x = 0 ∨ x = 1) : 0 ≤ addv c x ∧ addv c x ≤ 2 ^ (7 - c % 8) := by
  have := pow2_pos (7 - c % 8)
  unfold addv
  rcases hx with rfl | rfl <;> simp <;> omega

set_option maxRecDepth 100000 in
set_option maxHeartbeats 2000000 in
theorem add_any (B c : Nat) (v : Value) (D : List Int) (x : Int) (hx : x = 0 ∨ x = 1) (hc : c ≤ 600000) (w : World) (hBw : B ≤ w.heap.size) (hO : Own8 w B v D) (hW : WF D c) :
    Calls Try.prog 55 #[.agg #[v, .int .i64 (c : Int)], .int .i64 x] w (AddPost B c v D x w) := by
  have hps := psh_set hW x hx
  have hav := addv_bd c x hx
  have hpb := psh_byte hW
  have hlen := pshD_len hW
  have hroom := psh_room hW
  have hl : D.length ≤ 80000 := by have := hW.len; omega
  obtain ⟨i0, hi, hz0, hz1, hz2⟩ := info_parts u8info
  obtain ⟨P, hP⟩ : ∃ P, addv c x = P := ⟨_, rfl⟩
  have hP' : x * 2 ^ (7 - c % 8) = P := hP
  rw [hP] at hps hav
  obtain ⟨a0, a1⟩ := hav
  have hp128 : (2 : Int) ^ (7 - c % 8) ≤ 128 := by
    have := Nat.pow_le_pow_right (show 0 < 2 by decide) (show 7 - c % 8 ≤ 7 by omega)
    have h3 : ((2 ^ (7 - c % 8) : Nat) : Int) ≤ ((2 ^ 7 : Nat) : Int) := Int.ofNat_le.mpr this
    simpa using h3
  have a2 : P ≤ 128 := by omega
  have HB : Blk ((w.alloc (.cells #[v, .int .i64 (c : Int)] 57)).alloc (.cells #[.slice none 0 0, .int .i64 0] 57)) w.heap.size 57 [v, .int .i64 (c : Int)] := (Blk.new w [v, .int .i64 (c : Int)] _).alloc _
  have HZ : Blk ((w.alloc (.cells #[v, .int .i64 (c : Int)] 57)).alloc (.cells #[.slice none 0 0, .int .i64 0] 57)) (w.heap.size + 1) 57 [.slice none 0 0, .int .i64 0] := Blk.newAt (w.alloc (.cells #[v, .int .i64 (c : Int)] 57)) [.slice none 0 0, .int .i64 0] 57 (w.heap.size + 1) (by simp)
  have HO : Own8 ((w.alloc (.cells #[v, .int .i64 (c : Int)] 57)).alloc (.cells #[.slice none 0 0, .int .i64 0] 57)) B v D := World.ownsRow.alloc (World.ownsRow.alloc hO _) _
  have hpg := own_ne_blk HO HB (by decide)
  have hzg := own_ne_blk HO HZ (by decide)
  have c0 := HB.cell 0 _ rfl
  have c1 := HB.cell 1 _ rfl
  have f0 := HB.frozen 0
  have f1 := HB.frozen 1
  have HO := hidden HO
  have h10 : (0 : Int) ≤ (c : Int) % 8 := by omega
  have h11 : (c : Int) % 8 < 8 := by omega
  have h12 : (7 - (c : Int) % 8).toNat = 7 - c % 8 := by omega
  have h13 : ((c : Int) / 8).toNat = c / 8 := by omega
  have h14 : (0 : Int) ≤ 7 - (c : Int) % 8 := by omega
  have hps := hidden hps
  by_cases hm : c % 8 = 0
  · have k1 : ((c : Int) % 8 == 0) = true := by simp; omega
    have e1 : pshD D c = D ++ [0] := by unfold pshD; rw [if_pos hm]
    rw [e1] at hpb hlen hroom
    obtain ⟨D1, hD1⟩ : ∃ d, D ++ [0] = d := ⟨_, rfl⟩
    rw [hD1] at hpb hlen hroom e1
    have hlD1 : D1.length = D.length + 1 := by rw [← hD1]; simp
    have hbs : bs D ++ [.int .u8 0] = bs D1 := by rw [← hD1]; simp [bs]
    clear hD1
    have hlD1 := hidden hlD1
    have hbs := hidden hbs
    have e1 := hidden e1
    clear hlen
    obtain ⟨x0, hx0⟩ : ∃ y, D1.getD (c / 8) 0 = y := ⟨_, rfl⟩
    have hx0 := hidden hx0
    rw [hx0.out] at hpb
    obtain ⟨x1, x2⟩ := hpb
    have x3 : x0 + P ≤ 255 := by omega
    have Hm := hidden hm
    have HP := hidden hP
    clear hm hP
    go_enter Try.func55, Try.ntmps55
    go_wp2_with (at_builtin; refine wpList_append_lies _ (by rfl) _ _ 28 (by rfl) B 5 i0 (.int .u8 0) 1 1 Try.underlying28 hi hz0 hz1 hz2 rfl (by decide) v D.length (bs D) (by rfl) (World.ownsRow.alloc HO.out _) ⟨w.heap.size + 1 + 1, 0, none⟩ 1 1 [.int .u8 0] (by rfl) (by rfl) (World.news_of_block (cs := #[.int .u8 0]) (t := 5) (fr := (0, 0)) (Blk.newAt ((w.alloc (.cells #[v, .int .i64 (c : Int)] 57)).alloc (.cells #[.slice none 0 0, .int .i64 0] 57)) [.int .u8 0] 5 (w.heap.size + 1 + 1) (by simp))) (by simp [Value.oneCell']) (by omega) (by unfold maxLen; omega) (by omega) (by simp; omega) (w.heap.size + 1 + 1 + 1) (by simp) ?_; intro g cap w1 hown hgrow hat hlt; have B1 := (HB.alloc (.cells #[.int .u8 0] 5)).grown hgrow hpg; have Z1 := (HZ.alloc (.cells #[.int .u8 0] 5)).grown hgrow hzg; have e0 := B1.cell 0 _ rfl; have e1' := B1.cell 1 _ rfl; have g0 := B1.frozen 0; have g1 := B1.frozen 1)
    have hgp : g ≠ w.heap.size := by
      intro e
      have := own_ne_blk hown B1 (by decide)
      exact this (by simp [Value.ownBlock, e])
    have hgz : g ≠ w.heap.size + 1 := by
      intro e
      have := own_ne_blk hown Z1 (by decide)
      exact this (by simp [Value.ownBlock, e])
    rw [hbs.out] at hown
    have hown : Own8 w1 B (.slice (some ⟨g, 0, none⟩) (D.length + 1) cap) D1 := by unfold Own8; rw [hlD1.out]; exact hown
    have CA := ((((Chg.refl v.ownBlock.toList w).alloc (.cells #[v, .int .i64 (c : Int)] 57)).alloc (.cells #[.slice none 0 0, .int .i64 0] 57)).alloc (.cells #[.int .u8 0] 5)).grown hgrow (fun k hk => Or.inl (by rw [hk]; simp))
    have B2 := B1.set 0 (.slice (some ⟨g, 0, none⟩) (D.length + 1) cap)
    have Z2 := Z1.set_other (c := w.heap.size) (i := 0) (by omega) (.slice (some ⟨g, 0, none⟩) (D.length + 1) cap)
    have O2 := own_chg hown ((Chg.refl [w.heap.size] w1).setCell (p := ⟨w.heap.size, 0, none⟩) (Or.inl (by simp)) (.slice (some ⟨g, 0, none⟩) (D.length + 1) cap)) (by intro y hy; simp at hy; subst hy; simpa [Value.ownBlock] using hgp)
    have C2 := CA.setCell (p := ⟨w.heap.size, 0, none⟩) (Or.inr (by simp)) (.slice (some ⟨g, 0, none⟩) (D.length + 1) cap)
    obtain ⟨W2, hW2⟩ : ∃ W, w1.setCell ⟨w.heap.size, 0, none⟩ (.slice (some ⟨g, 0, none⟩) (D.length + 1) cap) = W := ⟨_, rfl⟩
    rw [hW2] at B2 O2 C2 Z2
    rw [hW2]
    have O2 : Own8 W2 B (.slice (some ⟨g, 0, none⟩) (D.length + 1) cap) D1 := O2
    clear hW2 CA hgrow hown B1 Z1 e0 e1' g0 g1
    clear c0 c1 f0 f1
    have z3 := B2.cell 0 _ rfl
    have z4 := B2.cell 1 _ rfl
    have z1 := Rd8.at O2.rd (c / 8) hroom
    rw [hx0.out, Nat.zero_add] at z1
    have y1 : IntKind.i64.wrap ((c : Int) / 8) = (c : Int) / 8 := IntWalk.i64_in _ (by omega)
    have y2 : IntKind.i64.wrap ((c : Int) % 8) = (c : Int) % 8 := IntWalk.i64_in _ (by omega)
    have y3 : (0 : Int) ≤ (c : Int) / 8 := by omega
    have y4 : (c : Int) / 8 < (D.length : Int) + 1 := by have := hlD1.out; omega
    have y5 : (c : Int).tmod 8 = (c : Int) % 8 := Int.tmod_eq_emod_of_nonneg (by omega)
    have y6 : IntKind.i64.wrap P = P := IntWalk.i64_in _ (by omega)
    have y7 : IntKind.u8.wrap P = P := IntWalk.u8_in _ (by omega)
    have y8 : IntKind.u8.wrap (x0 + P) = x0 + P := IntWalk.u8_in _ (by omega)
    have y9 : IntKind.i64.wrap (7 - (c : Int) % 8) = 7 - (c : Int) % 8 := IntWalk.i64_in _ (by omega)
    go_upto_region 3 with fail
    go_still_tail 16, (by kernel_rfl)
    change wpList _ _ _ _ _ W2.drew
    have B3 : Blk W2.drew w.heap.size 57 [.slice (some ⟨g, 0, none⟩) (D.length + 1) cap, .int .i64 (c : Int)] := B2
    have Z3 : Blk W2.drew (w.heap.size + 1) 57 [.slice none 0 0, .int .i64 0] := Z2
    have O3 : Own8 W2.drew B (.slice (some ⟨g, 0, none⟩) (D.length + 1) cap) D1 := O2
    have C3 : Chg v.ownBlock.toList w W2.drew := C2.drew
    clear z1 z3 z4
    have z3 := B3.cell 0 _ rfl
    have z4 := B3.cell 1 _ rfl
    have z5 := B3.frozen 1
    have z6 := Z3.cell 0 _ rfl
    have z7 := Z3.cell 1 _ rfl
    have z8 := Z3.frozen 0
    have z9 := Z3.frozen 1
    have z1 := Rd8.at O3.rd (c / 8) hroom
    have z2 := O3.frozen (c / 8)
    rw [hx0.out, Nat.zero_add] at z1
    generalize W2.drew = W3 at *
    go_wp2_with fail
    have Z4 := (((Z3.set_other (Ne.symm hgz) (i := c / 8) (.int .u8 (x0 + P))).set_other (c := w.heap.size) (i := 1) (by omega) (.int .i64 ((c : Int) + 1))).set 0 (.slice (some ⟨g, 0, none⟩) (D.length + 1) cap)).set 1 (.int .i64 ((c : Int) + 1))
    have q0 := Z4.cell 0 _ rfl
    have q1 := Z4.cell 1 _ rfl
    have hC := (((Chg.refl [w.heap.size, w.heap.size + 1] (W3.setCell ⟨g, c / 8, none⟩ (.int .u8 (x0 + P)))).setCell (p := ⟨w.heap.size, 1, none⟩) (Or.inl (by simp)) (.int .i64 ((c : Int) + 1))).setCell (p := ⟨w.heap.size + 1, 0, none⟩) (Or.inl (by simp)) (.slice (some ⟨g, 0, none⟩) (D.length + 1) cap)).setCell (p := ⟨w.heap.size + 1, 1, none⟩) (Or.inl (by simp)) (.int .i64 ((c : Int) + 1))
    have O4 := own_chg (O3.set (c / 8) (x0 + P)) hC (by intro y hy; simp at hy; rcases hy with rfl | rfl <;> simpa [Value.ownBlock])
    have C4 := (((C3.setCell (p := ⟨g, c / 8, none⟩) (by rcases hat with h | h; exact Or.inl (by rw [h]; simp); exact Or.inr (by show w.heap.size ≤ g; omega)) (.int .u8 (x0 + P))).setCell (p := ⟨w.heap.size, 1, none⟩) (Or.inr (by simp)) (.int .i64 ((c : Int) + 1))).setCell (p := ⟨w.heap.size + 1, 0, none⟩) (Or.inr (by simp)) (.slice (some ⟨g, 0, none⟩) (D.length + 1) cap)).setCell (p := ⟨w.heap.size + 1, 1, none⟩) (Or.inr (by simp)) (.int .i64 ((c : Int) + 1))
    refine bodyPost_ret (v := .agg #[.slice (some ⟨g, 0, none⟩) (D.length + 1) cap, .int .i64 ((c : Int) + 1)]) (by simp [results, Try.results55, go_sem, q0, q1]) rfl ?_
    refine ⟨_, rfl, ?_, (fun g0 hg0 => by simp [Value.ownBlock] at hg0; subst hg0; rcases hat with h | h; exact Or.inl h; exact Or.inr (by omega)), C4⟩
    have e : psh D c x = D1.set (c / 8) (x0 + P) := by rw [hps.out, e1.out, hx0.out]
    rw [e]
    exact O4
  · have k1 : ((c : Int) % 8 == 0) = false := by simp; omega
    have e1 : pshD D c = D := by unfold pshD; rw [if_neg hm]
    rw [e1] at hpb hlen hroom
    have hlo : 0 < D.length := by omega
    have hsh := Own8.shape hO
    obtain ⟨g, cap, rfl, hgB, hgl, hcap1, hcap2⟩ : ∃ g cap, v = .slice (some ⟨g, 0, none⟩) D.length cap ∧ B ≤ g ∧ g < w.heap.size ∧ D.length ≤ cap ∧ cap ≤ 9223372036854775807 := by
      rcases hsh with ⟨-, hn⟩ | h
      · rw [hn] at hlo; simp at hlo
      · exact h
    have hgp : g ≠ w.heap.size := by omega
    have hgz : g ≠ w.heap.size + 1 := by omega
    have hlD1 : Hid (D.length = D.length) := rfl
    have e1 := hidden e1
    clear hlen hsh
    obtain ⟨x0, hx0⟩ : ∃ y, D.getD (c / 8) 0 = y := ⟨_, rfl⟩
    have hx0 := hidden hx0
    rw [hx0.out] at hpb
    obtain ⟨x1, x2⟩ := hpb
    have x3 : x0 + P ≤ 255 := by omega
    have Hm := hidden hm
    have HP := hidden hP
    clear hm hP
    have O2 := HO.out
    have B2 := HB
    have Z2 := HZ
    have C2 := ((Chg.refl (Value.slice (some ⟨g, 0, none⟩) D.length cap).ownBlock.toList w).alloc (.cells #[.slice (some ⟨g, 0, none⟩) D.length cap, .int .i64 (c : Int)] 57)).alloc (.cells #[.slice none 0 0, .int .i64 0] 57)
    go_enter Try.func55, Try.ntmps55
    go_upto_region 3 with fail
    obtain ⟨W2, hW2⟩ : ∃ W, (w.alloc (.cells #[.slice (some ⟨g, 0, none⟩) D.length cap, .int .i64 (c : Int)] 57)).alloc (.cells #[.slice none 0 0, .int .i64 0] 57) = W := ⟨_, rfl⟩
    rw [hW2] at B2 O2 C2 Z2 ⊢
    clear hW2 HB HZ HO
    clear c0 c1 f0 f1
    have z3 := B2.cell 0 _ rfl
    have z4 := B2.cell 1 _ rfl
    have z1 := Rd8.at O2.rd (c / 8) hroom
    rw [hx0.out, Nat.zero_add] at z1
    have y1 : IntKind.i64.wrap ((c : Int) / 8) = (c : Int) / 8 := IntWalk.i64_in _ (by omega)
    have y2 : IntKind.i64.wrap ((c : Int) % 8) = (c : Int) % 8 := IntWalk.i64_in _ (by omega)
    have y3 : (0 : Int) ≤ (c : Int) / 8 := by omega
    have y4 : (c : Int) / 8 < (D.length : Int) := by have := hlD1.out; omega
    have y5 : (c : Int).tmod 8 = (c : Int) % 8 := Int.tmod_eq_emod_of_nonneg (by omega)
    have y6 : IntKind.i64.wrap P = P := IntWalk.i64_in _ (by omega)
    have y7 : IntKind.u8.wrap P = P := IntWalk.u8_in _ (by omega)
    have y8 : IntKind.u8.wrap (x0 + P) = x0 + P := IntWalk.u8_in _ (by omega)
    have y9 : IntKind.i64.wrap (7 - (c : Int) % 8) = 7 - (c : Int) % 8 := IntWalk.i64_in _ (by omega)
    go_still_tail 16, (by kernel_rfl)
    change wpList _ _ _ _ _ W2.drew
    have B3 : Blk W2.drew w.heap.size 57 [.slice (some ⟨g, 0, none⟩) D.length cap, .int .i64 (c : Int)] := B2
    have Z3 : Blk W2.drew (w.heap.size + 1) 57 [.slice none 0 0, .int .i64 0] := Z2
    have O3 : Own8 W2.drew B (.slice (some ⟨g, 0, none⟩) D.length cap) D := O2
    have C3 : Chg (Value.slice (some ⟨g, 0, none⟩) D.length cap).ownBlock.toList w W2.drew := C2.drew
    clear z1 z3 z4
    have z3 := B3.cell 0 _ rfl
    have z4 := B3.cell 1 _ rfl
    have z5 := B3.frozen 1
    have z6 := Z3.cell 0 _ rfl
    have z7 := Z3.cell 1 _ rfl
    have z8 := Z3.frozen 0
    have z9 := Z3.frozen 1
    have z1 := Rd8.at O3.rd (c / 8) hroom
    have z2 := O3.frozen (c / 8)
    rw [hx0.out, Nat.zero_add] at z1
    generalize W2.drew = W3 at *
    go_wp2_with fail
    have Z4 := (((Z3.set_other (Ne.symm hgz) (i := c / 8) (.int .u8 (x0 + P))).set_other (c := w.heap.size) (i := 1) (by omega) (.int .i64 ((c : Int) + 1))).set 0 (.slice (some ⟨g, 0, none⟩) D.length cap)).set 1 (.int .i64 ((c : Int) + 1))
    have q0 := Z4.cell 0 _ rfl
    have q1 := Z4.cell 1 _ rfl
    have hC := (((Chg.refl [w.heap.size, w.heap.size + 1] (W3.setCell ⟨g, c / 8, none⟩ (.int .u8 (x0 + P)))).setCell (p := ⟨w.heap.size, 1, none⟩) (Or.inl (by simp)) (.int .i64 ((c : Int) + 1))).setCell (p := ⟨w.heap.size + 1, 0, none⟩) (Or.inl (by simp)) (.slice (some ⟨g, 0, none⟩) D.length cap)).setCell (p := ⟨w.heap.size + 1, 1, none⟩) (Or.inl (by simp)) (.int .i64 ((c : Int) + 1))
    have O4 := own_chg (O3.set (c / 8) (x0 + P)) hC (by intro y hy; simp at hy; rcases hy with rfl | rfl <;> simpa [Value.ownBlock])
    have C4 := (((C3.setCell (p := ⟨g, c / 8, none⟩) (Or.inl (by simp [Value.ownBlock])) (.int .u8 (x0 + P))).setCell (p := ⟨w.heap.size, 1, none⟩) (Or.inr (by simp)) (.int .i64 ((c : Int) + 1))).setCell (p := ⟨w.heap.size + 1, 0, none⟩) (Or.inr (by simp)) (.slice (some ⟨g, 0, none⟩) D.length cap)).setCell (p := ⟨w.heap.size + 1, 1, none⟩) (Or.inr (by simp)) (.int .i64 ((c : Int) + 1))
    refine bodyPost_ret (v := .agg #[.slice (some ⟨g, 0, none⟩) D.length cap, .int .i64 ((c : Int) + 1)]) (by simp [results, Try.results55, go_sem, q0, q1]) rfl ?_
    refine ⟨_, rfl, ?_, Stays.refl _ _, C4⟩
    have e : psh D c x = D.set (c / 8) (x0 + P) := by rw [hps.out, e1.out, hx0.out]
    rw [e]
    exact O4
end Go.Proofs.Ytlnlffmlficjnaa
