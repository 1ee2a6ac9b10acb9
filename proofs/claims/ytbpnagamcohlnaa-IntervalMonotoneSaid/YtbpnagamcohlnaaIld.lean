/- The walk of IntervalMonotone. -/
import Derived.Test.YtbpnagamcohlnaaIlc
import Derived.Test.YtbpnagamcohlnaaIlb
namespace Go.Proofs.Ytbpnagamcohlnaa
open Go.RowKit
set_option linter.unusedVariables false


theorem one_new {wr wA w5 : World} {t : TypeId} {cs : List Value} (g : Ext (wA.alloc (.cells cs.toArray t)) w5) : True ∧ Blk w5 wA.heap.size t cs := ⟨trivial, (Blk.new wA cs t).ext g⟩
theorem one_new_drew {wr wA w5 : World} {t : TypeId} {cs : List Value} (g : Ext (wA.alloc (.cells cs.toArray t)).drew w5) : True ∧ Blk w5 wA.heap.size t cs := ⟨trivial, (Blk.new wA cs t).drew.ext g⟩
theorem two_blk (wA : World) (t : TypeId) (cs : List Value) : Blk ((wA.alloc (.cells cs.toArray t)).alloc (.cells cs.toArray t)) (wA.heap.size + 1) t cs := by
  have := Blk.new (wA.alloc (.cells cs.toArray t)) cs t
  rw [World.size_alloc] at this
  exact this
theorem two_new {wr wA w5 : World} {t : TypeId} {cs : List Value} (p : Nat) (hp : p < wr.heap.size) (hE : Ext wr wA) (g : Ext ((wA.alloc (.cells cs.toArray t)).alloc (.cells cs.toArray t)) w5) : (wA.heap.size + 1 ≠ p) ∧ Blk w5 wA.heap.size t cs ∧ Blk w5 (wA.heap.size + 1) t cs :=
  ⟨(by have := hE.size; omega), ((Blk.new wA cs t).alloc _).ext g, (two_blk wA t cs).ext g⟩
theorem two_new_drew {wr wA w5 : World} {t : TypeId} {cs : List Value} (p : Nat) (hp : p < wr.heap.size) (hE : Ext wr wA) (g : Ext ((wA.alloc (.cells cs.toArray t)).alloc (.cells cs.toArray t)).drew w5) : (wA.heap.size + 1 ≠ p) ∧ Blk w5 wA.heap.size t cs ∧ Blk w5 (wA.heap.size + 1) t cs :=
  ⟨(by have := hE.size; omega), ((Blk.new wA cs t).alloc _).drew.ext g, (two_blk wA t cs).drew.ext g⟩
/-- What the region leaves: two boxes of intervals, wherever they lie. -/
def AB (wr wx : World) (p q : Nat) (a b c d : Int) : Prop := Blk wx p 23 [.int .i64 a, .int .i64 b] ∧ Blk wx q 23 [.int .i64 c, .int .i64 d] ∧ Ext wr wx
theorem size_set2 (w : World) (p : Nat) (x y : Value) : (World.setCell (World.setCell w ⟨p, 0, none⟩ x) ⟨p, 1, none⟩ y).heap.size = w.heap.size := by simp [World.setCell]
theorem ab1 {V w5 : World} (gX : Ext V w5) (a b c d : Int) : AB V (World.alloc (World.alloc w5 (.cells #[.int .i64 a, .int .i64 b] 23)) (.cells #[.int .i64 c, .int .i64 d] 23)) w5.heap.size (w5.heap.size + 1) a b c d := by
  refine ⟨(Blk.new w5 [.int .i64 a, .int .i64 b] 23).alloc _, ?_, (gX.alloc _).alloc _⟩
  have := Blk.new (World.alloc w5 (.cells #[.int .i64 a, .int .i64 b] 23)) [.int .i64 c, .int .i64 d] 23
  rw [World.size_alloc] at this
  exact this
theorem ab2 {V w5 : World} (gX : Ext V w5) (a b c d : Int) : AB V (World.alloc (World.alloc w5 (.cells #[.int .i64 c, .int .i64 d] 23)) (.cells #[.int .i64 a, .int .i64 b] 23)) (w5.heap.size + 1) w5.heap.size a b c d := by
  refine ⟨?_, (Blk.new w5 [.int .i64 c, .int .i64 d] 23).alloc _, (gX.alloc _).alloc _⟩
  have := Blk.new (World.alloc w5 (.cells #[.int .i64 c, .int .i64 d] 23)) [.int .i64 a, .int .i64 b] 23
  rw [World.size_alloc] at this
  exact this
theorem ab3 {V w5 : World} {p : Nat} (gX : Ext V w5) (kb : Blk w5 p 23 [.int .i64 0, .int .i64 0]) (hp : V.heap.size ≤ p) (a b c d : Int) : AB V (World.alloc (World.setCell (World.setCell w5 ⟨p, 0, none⟩ (.int .i64 a)) ⟨p, 1, none⟩ (.int .i64 b)) (.cells #[.int .i64 c, .int .i64 d] 23)) p w5.heap.size a b c d := by
  refine ⟨((kb.set 0 _).set 1 _).alloc _, ?_, ((gX.setCell hp _).setCell hp _).alloc _⟩
  have := Blk.new (World.setCell (World.setCell w5 ⟨p, 0, none⟩ (.int .i64 a)) ⟨p, 1, none⟩ (.int .i64 b)) [.int .i64 c, .int .i64 d] 23
  rw [size_set2] at this
  exact this
theorem ab4 {V w5 : World} {q : Nat} (gX : Ext V w5) (kb : Blk w5 q 23 [.int .i64 0, .int .i64 0]) (hp : V.heap.size ≤ q) (a b c d : Int) : AB V (World.alloc (World.setCell (World.setCell w5 ⟨q, 0, none⟩ (.int .i64 c)) ⟨q, 1, none⟩ (.int .i64 d)) (.cells #[.int .i64 a, .int .i64 b] 23)) w5.heap.size q a b c d := by
  refine ⟨?_, ((kb.set 0 _).set 1 _).alloc _, ((gX.setCell hp _).setCell hp _).alloc _⟩
  have := Blk.new (World.setCell (World.setCell w5 ⟨q, 0, none⟩ (.int .i64 c)) ⟨q, 1, none⟩ (.int .i64 d)) [.int .i64 a, .int .i64 b] 23
  rw [size_set2] at this
  exact this
theorem ab5 {V w5 : World} {p q : Nat} (gX : Ext V w5) (kp : Blk w5 p 23 [.int .i64 0, .int .i64 0]) (kq : Blk w5 q 23 [.int .i64 0, .int .i64 0]) (hp : V.heap.size ≤ p) (hq : V.heap.size ≤ q) (hne : p ≠ q) (a b c d : Int) : AB V (World.setCell (World.setCell (World.setCell (World.setCell w5 ⟨p, 0, none⟩ (.int .i64 a)) ⟨p, 1, none⟩ (.int .i64 b)) ⟨q, 0, none⟩ (.int .i64 c)) ⟨q, 1, none⟩ (.int .i64 d)) p q a b c d :=
  ⟨(((kp.set 0 _).set 1 _).set_other hne _).set_other hne _, (((kq.set_other (Ne.symm hne) _).set_other (Ne.symm hne) _).set 0 _).set 1 _, ((((gX.setCell hp _).setCell hp _).setCell hq _).setCell hq _)⟩
set_option maxHeartbeats 4000000 in
set_option maxRecDepth 100000 in
theorem mono_div (op A B dn up lo hi u v x y : Int) (op0 : 0 ≤ op) (op1 : op ≤ 255) (A0 : 0 ≤ A) (A1 : A ≤ 4294967295) (B0 : 0 ≤ B) (B1 : B ≤ 4294967295) (dn0 : 0 ≤ dn) (dn1 : dn ≤ 4294967295) (up0 : 0 ≤ up) (up1 : up ≤ 4294967295) (lo0 : 0 ≤ lo) (lo1 : lo ≤ 4294967295) (hi0 : 0 ≤ hi) (hi1 : hi ≤ 4294967295) (u0 : 0 ≤ u) (u1 : u ≤ 4294967295) (v0 : 0 ≤ v) (v1 : v ≤ 4294967295) (x0 : 0 ≤ x) (x1 : x ≤ 4294967295) (y0 : 0 ≤ y) (y1 : y ≤ 4294967295) (o a b c d a' b' c' d' zl zh yl yh : Int) (eo : 8 + op % 19 = o) (ea : max 0 (A - dn) = a) (eb : min 4294967295 (A + up) = b) (ec : max 0 (B - lo) = c) (ed : min 4294967295 (B + hi) = d) (ea' : max 0 (a - u) = a') (eb' : min 4294967295 (b + v) = b') (ec' : max 0 (c - x) = c') (ed' : min 4294967295 (d + y) = d') (er er' : Int) (ezl : (iaF o a b c d).1 = zl) (ezh : (iaF o a b c d).2.1 = zh) (eer : (iaF o a b c d).2.2 = er) (eyl : (iaF o a' b' c' d').1 = yl) (eyh : (iaF o a' b' c' d').2.1 = yh) (eer' : (iaF o a' b' c' d').2.2 = er') (h17 : (er' == 17) = true) (w : World) : Calls Try.prog 4 #[.int .u8 op, .agg #[.int .u32 A, .int .u32 B, .int .u32 dn, .int .u32 up, .int .u32 lo, .int .u32 hi], .agg #[.int .u32 u, .int .u32 v, .int .u32 x, .int .u32 y]] w fun x w' => x = .returned (.bool true) ∧ Ext w w' := by
  have hab : 0 ≤ a ∧ a ≤ 4294967295 ∧ 0 ≤ b ∧ b ≤ 4294967295 ∧ 0 ≤ c ∧ c ≤ 4294967295 ∧ 0 ≤ d ∧ d ≤ 4294967295 := by omega
  obtain ⟨ha0, ha1, hb0, hb1, hc0, hc1, hd0, hd1⟩ := hab
  replace ea := hidden ea
  replace eb := hidden eb
  replace ec := hidden ec
  replace ed := hidden ed
  replace ea' := hidden ea'
  replace eb' := hidden eb'
  replace ec' := hidden ec'
  replace ed' := hidden ed'
  have Bn := (Blk.new w [.int .u32 A, .int .u32 B, .int .u32 dn, .int .u32 up, .int .u32 lo, .int .u32 hi] 33).alloc (.cells #[.int .u32 u, .int .u32 v, .int .u32 x, .int .u32 y] 34)
  have Bm := Blk.new (w.alloc (.cells #[.int .u32 A, .int .u32 B, .int .u32 dn, .int .u32 up, .int .u32 lo, .int .u32 hi] 33)) [.int .u32 u, .int .u32 v, .int .u32 x, .int .u32 y] 34
  rw [World.size_alloc] at Bm
  have E0 : Ext w ((w.alloc (.cells #[.int .u32 A, .int .u32 B, .int .u32 dn, .int .u32 up, .int .u32 lo, .int .u32 hi] 33)).alloc (.cells #[.int .u32 u, .int .u32 v, .int .u32 x, .int .u32 y] 34)) := ((Ext.refl w).alloc _).alloc _
  go_enter Try.func4, Try.ntmps4
  go_upto_region 2 with fail
  replace eo := hidden eo
  replace eer' := hidden eer'
  replace eyh := hidden eyh
  replace eyl := hidden eyl
  replace eer := hidden eer
  replace ezh := hidden ezh
  replace ezl := hidden ezl
  obtain ⟨V0, hV⟩ : ∃ V, (w.alloc (.cells #[.int .u32 A, .int .u32 B, .int .u32 dn, .int .u32 up, .int .u32 lo, .int .u32 hi] 33)).alloc (.cells #[.int .u32 u, .int .u32 v, .int .u32 x, .int .u32 y] 34) = V := ⟨_, rfl⟩
  have Bn : Blk V0 w.heap.size 33 [.int .u32 A, .int .u32 B, .int .u32 dn, .int .u32 up, .int .u32 lo, .int .u32 hi] := hV ▸ Bn
  have Bm : Blk V0 (w.heap.size + 1) 34 [.int .u32 u, .int .u32 v, .int .u32 x, .int .u32 y] := hV ▸ Bm
  rw [hV] at E0 ⊢
  clear hV
  have h0 := Bn.cell 0 _ rfl
  have n0 := World.new_ne V0 _ h0
  have h1 := Bn.cell 1 _ rfl
  have n1 := World.new_ne V0 _ h1
  have h2 := Bn.cell 2 _ rfl
  have n2 := World.new_ne V0 _ h2
  have h3 := Bn.cell 3 _ rfl
  have n3 := World.new_ne V0 _ h3
  have h4 := Bn.cell 4 _ rfl
  have n4 := World.new_ne V0 _ h4
  have h5 := Bn.cell 5 _ rfl
  have n5 := World.new_ne V0 _ h5
  have hlt0 := Bn.lt
  go_cut [8, 9] (fun s8 s9 wx => ∃ p q, s8 = .pointer (some ⟨p, 0, none⟩) ∧ s9 = .pointer (some ⟨q, 0, none⟩) ∧ AB V0 wx p q a b c d)
  case first =>
    go_region_held3 (fun w' => w'.cell? ⟨w.heap.size, 0, none⟩ = some (.int .u32 A) ∧ w'.cell? ⟨w.heap.size, 1, none⟩ = some (.int .u32 B) ∧ w'.cell? ⟨w.heap.size, 2, none⟩ = some (.int .u32 dn) ∧ w'.cell? ⟨w.heap.size, 3, none⟩ = some (.int .u32 up) ∧ w'.cell? ⟨w.heap.size, 4, none⟩ = some (.int .u32 lo) ∧ w'.cell? ⟨w.heap.size, 5, none⟩ = some (.int .u32 hi)) (go_keep)
      (first | (go_at_call 13; refine (iv_at _ _ _ _ _ _ _ (by first | exact ea.out | exact ec.out) (by first | exact eb.out | exact ed.out) (around_any _ _ _ (by omega) (by omega) (by omega) (by omega) (by omega) (by omega) _)).mono ?_; rintro e w5 ⟨rfl, g5⟩; have gX : Ext V0 w5 := (by first | exact Ext.trans gX g5 | exact (Ext.trans gX g5.past) | exact (Ext.trans gX g5.past.past) | exact g5.past_drew | exact g5.past_drew.past | exact g5.past_drew.past.past | exact g5 | exact g5.past | exact g5.past.past); (first | (have kq := two_new (wr := V0) (t := 23) (cs := [.int .i64 0, .int .i64 0]) w.heap.size hlt0 (by first | assumption | exact Ext.refl _) g5; obtain ⟨kz, kb, kc⟩ := kq; have kb0 := kb.cell 0 _ rfl; have kbf0 := kb.frozen 0; have kbn0 := World.new_ne w5 _ kb0; have kb1 := kb.cell 1 _ rfl; have kbf1 := kb.frozen 1; have kbn1 := World.new_ne w5 _ kb1; have kbl := kb.lt; have kc0 := kc.cell 0 _ rfl; have kcf0 := kc.frozen 0; have kcn0 := World.new_ne w5 _ kc0; have kc1 := kc.cell 1 _ rfl; have kcf1 := kc.frozen 1; have kcn1 := World.new_ne w5 _ kc1; have kcl := kc.lt) | (have kq := two_new_drew (wr := V0) (t := 23) (cs := [.int .i64 0, .int .i64 0]) w.heap.size hlt0 (by first | assumption | exact Ext.refl _) g5; obtain ⟨kz, kb, kc⟩ := kq; have kb0 := kb.cell 0 _ rfl; have kbf0 := kb.frozen 0; have kbn0 := World.new_ne w5 _ kb0; have kb1 := kb.cell 1 _ rfl; have kbf1 := kb.frozen 1; have kbn1 := World.new_ne w5 _ kb1; have kbl := kb.lt; have kc0 := kc.cell 0 _ rfl; have kcf0 := kc.frozen 0; have kcn0 := World.new_ne w5 _ kc0; have kc1 := kc.cell 1 _ rfl; have kcf1 := kc.frozen 1; have kcn1 := World.new_ne w5 _ kc1; have kcl := kc.lt) | (have kn := one_new (wr := V0) (t := 23) (cs := [.int .i64 0, .int .i64 0]) g5; have kb := kb.ext g5.past; have kc := kn.2; have kb0 := kb.cell 0 _ rfl; have kbf0 := kb.frozen 0; have kbn0 := World.new_ne w5 _ kb0; have kb1 := kb.cell 1 _ rfl; have kbf1 := kb.frozen 1; have kbn1 := World.new_ne w5 _ kb1; have kbl := kb.lt; have kc0 := kc.cell 0 _ rfl; have kcf0 := kc.frozen 0; have kcn0 := World.new_ne w5 _ kc0; have kc1 := kc.cell 1 _ rfl; have kcf1 := kc.frozen 1; have kcn1 := World.new_ne w5 _ kc1; have kcl := kc.lt) | (have kq := one_new (wr := V0) (t := 23) (cs := [.int .i64 0, .int .i64 0]) g5; have kb := kq.2; have kb0 := kb.cell 0 _ rfl; have kbf0 := kb.frozen 0; have kbn0 := World.new_ne w5 _ kb0; have kb1 := kb.cell 1 _ rfl; have kbf1 := kb.frozen 1; have kbn1 := World.new_ne w5 _ kb1; have kbl := kb.lt) | (have kq := one_new_drew (wr := V0) (t := 23) (cs := [.int .i64 0, .int .i64 0]) g5; have kb := kq.2; have kb0 := kb.cell 0 _ rfl; have kbf0 := kb.frozen 0; have kbn0 := World.new_ne w5 _ kb0; have kb1 := kb.cell 1 _ rfl; have kbf1 := kb.frozen 1; have kbn1 := World.new_ne w5 _ kb1; have kbl := kb.lt) | (have kb := kb.ext g5; have kc := kc.ext g5; have kb0 := kb.cell 0 _ rfl; have kbf0 := kb.frozen 0; have kbn0 := World.new_ne w5 _ kb0; have kb1 := kb.cell 1 _ rfl; have kbf1 := kb.frozen 1; have kbn1 := World.new_ne w5 _ kb1; have kbl := kb.lt; have kc0 := kc.cell 0 _ rfl; have kcf0 := kc.frozen 0; have kcn0 := World.new_ne w5 _ kc0; have kc1 := kc.cell 1 _ rfl; have kcf1 := kc.frozen 1; have kcn1 := World.new_ne w5 _ kc1; have kcl := kc.lt) | (have kb := kb.ext g5; have kb0 := kb.cell 0 _ rfl; have kbf0 := kb.frozen 0; have kbn0 := World.new_ne w5 _ kb0; have kb1 := kb.cell 1 _ rfl; have kbf1 := kb.frozen 1; have kbn1 := World.new_ne w5 _ kb1; have kbl := kb.lt) | skip); have j0 : w5.cell? ⟨w.heap.size, 0, none⟩ = some (.int .u32 A) := gX.cell h0; have j1 : w5.cell? ⟨w.heap.size, 1, none⟩ = some (.int .u32 B) := gX.cell h1; have j2 : w5.cell? ⟨w.heap.size, 2, none⟩ = some (.int .u32 dn) := gX.cell h2; have j3 : w5.cell? ⟨w.heap.size, 3, none⟩ = some (.int .u32 up) := gX.cell h3; have j4 : w5.cell? ⟨w.heap.size, 4, none⟩ = some (.int .u32 lo) := gX.cell h4; have j5 : w5.cell? ⟨w.heap.size, 5, none⟩ = some (.int .u32 hi) := gX.cell h5; have m0 := World.new_ne w5 _ j0; have m1 := World.new_ne w5 _ j1; have m2 := World.new_ne w5 _ j2; have m3 := World.new_ne w5 _ j3; have m4 := World.new_ne w5 _ j4; have m5 := World.new_ne w5 _ j5; have s5 := gX.size))
    all_goals
      go_wp2_with fail
      go_meet
      refine ⟨_, _, rfl, rfl, ?_⟩
      first
        | (with_reducible refine ab1 ?_ a b c d; exact gX)
        | (with_reducible refine ab2 ?_ a b c d; exact gX)
        | ((with_reducible refine ab3 ?_ ?_ ?_ a b c d); exact gX; exact kb; omega)
        | ((with_reducible refine ab4 ?_ ?_ ?_ a b c d); exact gX; exact kb; omega)
        | ((with_reducible refine ab5 ?_ ?_ ?_ ?_ ?_ ?_ a b c d); exact gX; (first | with_reducible exact kb | with_reducible exact kc); (first | with_reducible exact kc | with_reducible exact kb); omega; omega; omega)
  case rest =>
    obtain ⟨p, q, rfl, rfl, Bp, Bq, gq⟩ := hcut
    replace Bn := Bn.ext gq
    replace Bm := Bm.ext gq
    replace E0 := E0.trans gq
    clear h0 n0 h1 n1 h2 n2 h3 n3 h4 n4 h5 n5 gq hlt0
    have hm0 := Bm.cell 0 _ rfl
    have hm1 := Bm.cell 1 _ rfl
    have hm2 := Bm.cell 2 _ rfl
    have hm3 := Bm.cell 3 _ rfl
    have hp0 := Bp.cell 0 _ rfl
    have hp1 := Bp.cell 1 _ rfl
    go_upto_region 3 with fail
    go_cut [10] (fun z wx => ∃ r, z = .pointer (some ⟨r, 0, none⟩) ∧ Blk wx r 23 [.int .i64 a', .int .i64 b'] ∧ Blk wx p 23 [.int .i64 a, .int .i64 b] ∧ Blk wx q 23 [.int .i64 c, .int .i64 d] ∧ Blk wx (w.heap.size + 1) 34 [.int .u32 u, .int .u32 v, .int .u32 x, .int .u32 y] ∧ Ext w wx)
    case first =>
      go_wp2_with fail
      all_goals
        refine (iv_at _ _ _ _ a' b' _ (by first | (have := ea'.out; omega)) (by first | (have := eb'.out; omega)) (from_any _ _ _)).mono ?_
        rintro e3 w3 ⟨rfl, g3⟩
        go_wp2_with fail
        go_meet
        exact ⟨_, rfl, Blk.new w3 [.int .i64 a', .int .i64 b'] _, (Bp.ext g3).alloc _, (Bq.ext g3).alloc _, (Bm.ext g3).alloc _, (E0.trans g3).alloc _⟩
    case rest =>
      obtain ⟨r, rfl, Br, Bp, Bq, Bm, E0⟩ := hcut
      clear hm0 hm1 hm2 hm3 hp0 hp1
      have hm2 := Bm.cell 2 _ rfl
      have hm3 := Bm.cell 3 _ rfl
      have hq0 := Bq.cell 0 _ rfl
      have hq1 := Bq.cell 1 _ rfl
      go_upto_region 4 with fail
      go_cut [11] (fun z wx => ∃ s, z = .pointer (some ⟨s, 0, none⟩) ∧ Blk wx s 23 [.int .i64 c', .int .i64 d'] ∧ Blk wx r 23 [.int .i64 a', .int .i64 b'] ∧ Blk wx p 23 [.int .i64 a, .int .i64 b] ∧ Blk wx q 23 [.int .i64 c, .int .i64 d] ∧ Ext w wx)
      case first =>
        go_wp2_with fail
        all_goals
          refine (iv_at _ _ _ _ c' d' _ (by first | (have := ec'.out; omega)) (by first | (have := ed'.out; omega)) (from_any _ _ _)).mono ?_
          rintro e3 w3 ⟨rfl, g3⟩
          go_wp2_with fail
          go_meet
          exact ⟨_, rfl, Blk.new w3 [.int .i64 c', .int .i64 d'] _, (Br.ext g3).alloc _, (Bp.ext g3).alloc _, (Bq.ext g3).alloc _, (E0.trans g3).alloc _⟩
      case rest =>
        obtain ⟨s, rfl, Bs, Br, Bp, Bq, E0⟩ := hcut
        clear hm2 hm3 hq0 hq1
        have hp0 := Bp.cell 0 _ rfl
        have hp1 := Bp.cell 1 _ rfl
        have hq0 := Bq.cell 0 _ rfl
        have hq1 := Bq.cell 1 _ rfl
        go_wp2_with fail
        refine (tup_at _ _ _ _ _ _ _ _ _ ezl.out ezh.out eer.out (ivapply_any o a b c d _)).mono ?_
        rintro e5 w5 ⟨rfl, g5⟩
        have By := Blk.new w5 [.int .i64 zl, .int .i64 zh] 23
        replace Br := (Br.ext g5).alloc (.cells #[.int .i64 zl, .int .i64 zh] 23)
        replace Bs := (Bs.ext g5).alloc (.cells #[.int .i64 zl, .int .i64 zh] 23)
        replace E0 := (E0.trans g5).alloc (.cells #[.int .i64 zl, .int .i64 zh] 23)
        clear g5
        obtain ⟨p5, hp5⟩ : ∃ p, w5.heap.size = p := ⟨_, rfl⟩
        rw [hp5] at By
        clear hp0 hp1 hq0 hq1
        have hr0 := Br.cell 0 _ rfl
        have hr1 := Br.cell 1 _ rfl
        have hs0 := Bs.cell 0 _ rfl
        have hs1 := Bs.cell 1 _ rfl
        go_wp2_with fail
        refine (tup_at _ _ _ _ _ _ _ _ _ eyl.out eyh.out eer'.out (ivapply_any o a' b' c' d' _)).mono ?_
        rintro e6 w6 ⟨rfl, g6⟩
        have Bz := Blk.new w6 [.int .i64 yl, .int .i64 yh] 23
        replace By := (By.ext g6).alloc (.cells #[.int .i64 yl, .int .i64 yh] 23)
        replace E0 := (E0.trans g6).alloc (.cells #[.int .i64 yl, .int .i64 yh] 23)
        clear g6
        obtain ⟨p6, hp6⟩ : ∃ p, w6.heap.size = p := ⟨_, rfl⟩
        rw [hp6] at Bz
        clear hr0 hr1 hs0 hs1
        go_wp2_with fail
        refine (awake_any _).mono ?_
        rintro e7 w7 ⟨rfl, g7⟩
        replace By := (By.ext g7)
        replace Bz := (Bz.ext g7)
        replace E0 := (E0.trans g7)
        clear g7
        go_wp2_with fail
        go_ret
        exact ⟨rfl, E0⟩
set_option maxHeartbeats 4000000 in
set_option maxRecDepth 100000 in
theorem mono_ok (op A B dn up lo hi u v x y : Int) (op0 : 0 ≤ op) (op1 : op ≤ 255) (A0 : 0 ≤ A) (A1 : A ≤ 4294967295) (B0 : 0 ≤ B) (B1 : B ≤ 4294967295) (dn0 : 0 ≤ dn) (dn1 : dn ≤ 4294967295) (up0 : 0 ≤ up) (up1 : up ≤ 4294967295) (lo0 : 0 ≤ lo) (lo1 : lo ≤ 4294967295) (hi0 : 0 ≤ hi) (hi1 : hi ≤ 4294967295) (u0 : 0 ≤ u) (u1 : u ≤ 4294967295) (v0 : 0 ≤ v) (v1 : v ≤ 4294967295) (x0 : 0 ≤ x) (x1 : x ≤ 4294967295) (y0 : 0 ≤ y) (y1 : y ≤ 4294967295) (o a b c d a' b' c' d' zl zh yl yh : Int) (eo : 8 + op % 19 = o) (ea : max 0 (A - dn) = a) (eb : min 4294967295 (A + up) = b) (ec : max 0 (B - lo) = c) (ed : min 4294967295 (B + hi) = d) (ea' : max 0 (a - u) = a') (eb' : min 4294967295 (b + v) = b') (ec' : max 0 (c - x) = c') (ed' : min 4294967295 (d + y) = d') (ezl : (iaF o a b c d).1 = zl) (ezh : (iaF o a b c d).2.1 = zh) (eer : (iaF o a b c d).2.2 = 0) (eyl : (iaF o a' b' c' d').1 = yl) (eyh : (iaF o a' b' c' d').2.1 = yh) (eer' : (iaF o a' b' c' d').2.2 = 0) (hw : witB zl zh yl yh = true) (w : World) : Calls Try.prog 4 #[.int .u8 op, .agg #[.int .u32 A, .int .u32 B, .int .u32 dn, .int .u32 up, .int .u32 lo, .int .u32 hi], .agg #[.int .u32 u, .int .u32 v, .int .u32 x, .int .u32 y]] w fun x w' => x = .returned (.bool true) ∧ Ext w w' := by
  have hab : 0 ≤ a ∧ a ≤ 4294967295 ∧ 0 ≤ b ∧ b ≤ 4294967295 ∧ 0 ≤ c ∧ c ≤ 4294967295 ∧ 0 ≤ d ∧ d ≤ 4294967295 := by omega
  obtain ⟨ha0, ha1, hb0, hb1, hc0, hc1, hd0, hd1⟩ := hab
  replace ea := hidden ea
  replace eb := hidden eb
  replace ec := hidden ec
  replace ed := hidden ed
  replace ea' := hidden ea'
  replace eb' := hidden eb'
  replace ec' := hidden ec'
  replace ed' := hidden ed'
  have Bn := (Blk.new w [.int .u32 A, .int .u32 B, .int .u32 dn, .int .u32 up, .int .u32 lo, .int .u32 hi] 33).alloc (.cells #[.int .u32 u, .int .u32 v, .int .u32 x, .int .u32 y] 34)
  have Bm := Blk.new (w.alloc (.cells #[.int .u32 A, .int .u32 B, .int .u32 dn, .int .u32 up, .int .u32 lo, .int .u32 hi] 33)) [.int .u32 u, .int .u32 v, .int .u32 x, .int .u32 y] 34
  rw [World.size_alloc] at Bm
  have E0 : Ext w ((w.alloc (.cells #[.int .u32 A, .int .u32 B, .int .u32 dn, .int .u32 up, .int .u32 lo, .int .u32 hi] 33)).alloc (.cells #[.int .u32 u, .int .u32 v, .int .u32 x, .int .u32 y] 34)) := ((Ext.refl w).alloc _).alloc _
  go_enter Try.func4, Try.ntmps4
  go_upto_region 2 with fail
  replace eo := hidden eo
  replace hw := hidden hw
  replace eer' := hidden eer'
  replace eyh := hidden eyh
  replace eyl := hidden eyl
  replace eer := hidden eer
  replace ezh := hidden ezh
  replace ezl := hidden ezl
  obtain ⟨V0, hV⟩ : ∃ V, (w.alloc (.cells #[.int .u32 A, .int .u32 B, .int .u32 dn, .int .u32 up, .int .u32 lo, .int .u32 hi] 33)).alloc (.cells #[.int .u32 u, .int .u32 v, .int .u32 x, .int .u32 y] 34) = V := ⟨_, rfl⟩
  have Bn : Blk V0 w.heap.size 33 [.int .u32 A, .int .u32 B, .int .u32 dn, .int .u32 up, .int .u32 lo, .int .u32 hi] := hV ▸ Bn
  have Bm : Blk V0 (w.heap.size + 1) 34 [.int .u32 u, .int .u32 v, .int .u32 x, .int .u32 y] := hV ▸ Bm
  rw [hV] at E0 ⊢
  clear hV
  have h0 := Bn.cell 0 _ rfl
  have n0 := World.new_ne V0 _ h0
  have h1 := Bn.cell 1 _ rfl
  have n1 := World.new_ne V0 _ h1
  have h2 := Bn.cell 2 _ rfl
  have n2 := World.new_ne V0 _ h2
  have h3 := Bn.cell 3 _ rfl
  have n3 := World.new_ne V0 _ h3
  have h4 := Bn.cell 4 _ rfl
  have n4 := World.new_ne V0 _ h4
  have h5 := Bn.cell 5 _ rfl
  have n5 := World.new_ne V0 _ h5
  have hlt0 := Bn.lt
  go_cut [8, 9] (fun s8 s9 wx => ∃ p q, s8 = .pointer (some ⟨p, 0, none⟩) ∧ s9 = .pointer (some ⟨q, 0, none⟩) ∧ AB V0 wx p q a b c d)
  case first =>
    go_region_held3 (fun w' => w'.cell? ⟨w.heap.size, 0, none⟩ = some (.int .u32 A) ∧ w'.cell? ⟨w.heap.size, 1, none⟩ = some (.int .u32 B) ∧ w'.cell? ⟨w.heap.size, 2, none⟩ = some (.int .u32 dn) ∧ w'.cell? ⟨w.heap.size, 3, none⟩ = some (.int .u32 up) ∧ w'.cell? ⟨w.heap.size, 4, none⟩ = some (.int .u32 lo) ∧ w'.cell? ⟨w.heap.size, 5, none⟩ = some (.int .u32 hi)) (go_keep)
      (first | (go_at_call 13; refine (iv_at _ _ _ _ _ _ _ (by first | exact ea.out | exact ec.out) (by first | exact eb.out | exact ed.out) (around_any _ _ _ (by omega) (by omega) (by omega) (by omega) (by omega) (by omega) _)).mono ?_; rintro e w5 ⟨rfl, g5⟩; have gX : Ext V0 w5 := (by first | exact Ext.trans gX g5 | exact (Ext.trans gX g5.past) | exact (Ext.trans gX g5.past.past) | exact g5.past_drew | exact g5.past_drew.past | exact g5.past_drew.past.past | exact g5 | exact g5.past | exact g5.past.past); (first | (have kq := two_new (wr := V0) (t := 23) (cs := [.int .i64 0, .int .i64 0]) w.heap.size hlt0 (by first | assumption | exact Ext.refl _) g5; obtain ⟨kz, kb, kc⟩ := kq; have kb0 := kb.cell 0 _ rfl; have kbf0 := kb.frozen 0; have kbn0 := World.new_ne w5 _ kb0; have kb1 := kb.cell 1 _ rfl; have kbf1 := kb.frozen 1; have kbn1 := World.new_ne w5 _ kb1; have kbl := kb.lt; have kc0 := kc.cell 0 _ rfl; have kcf0 := kc.frozen 0; have kcn0 := World.new_ne w5 _ kc0; have kc1 := kc.cell 1 _ rfl; have kcf1 := kc.frozen 1; have kcn1 := World.new_ne w5 _ kc1; have kcl := kc.lt) | (have kq := two_new_drew (wr := V0) (t := 23) (cs := [.int .i64 0, .int .i64 0]) w.heap.size hlt0 (by first | assumption | exact Ext.refl _) g5; obtain ⟨kz, kb, kc⟩ := kq; have kb0 := kb.cell 0 _ rfl; have kbf0 := kb.frozen 0; have kbn0 := World.new_ne w5 _ kb0; have kb1 := kb.cell 1 _ rfl; have kbf1 := kb.frozen 1; have kbn1 := World.new_ne w5 _ kb1; have kbl := kb.lt; have kc0 := kc.cell 0 _ rfl; have kcf0 := kc.frozen 0; have kcn0 := World.new_ne w5 _ kc0; have kc1 := kc.cell 1 _ rfl; have kcf1 := kc.frozen 1; have kcn1 := World.new_ne w5 _ kc1; have kcl := kc.lt) | (have kn := one_new (wr := V0) (t := 23) (cs := [.int .i64 0, .int .i64 0]) g5; have kb := kb.ext g5.past; have kc := kn.2; have kb0 := kb.cell 0 _ rfl; have kbf0 := kb.frozen 0; have kbn0 := World.new_ne w5 _ kb0; have kb1 := kb.cell 1 _ rfl; have kbf1 := kb.frozen 1; have kbn1 := World.new_ne w5 _ kb1; have kbl := kb.lt; have kc0 := kc.cell 0 _ rfl; have kcf0 := kc.frozen 0; have kcn0 := World.new_ne w5 _ kc0; have kc1 := kc.cell 1 _ rfl; have kcf1 := kc.frozen 1; have kcn1 := World.new_ne w5 _ kc1; have kcl := kc.lt) | (have kq := one_new (wr := V0) (t := 23) (cs := [.int .i64 0, .int .i64 0]) g5; have kb := kq.2; have kb0 := kb.cell 0 _ rfl; have kbf0 := kb.frozen 0; have kbn0 := World.new_ne w5 _ kb0; have kb1 := kb.cell 1 _ rfl; have kbf1 := kb.frozen 1; have kbn1 := World.new_ne w5 _ kb1; have kbl := kb.lt) | (have kq := one_new_drew (wr := V0) (t := 23) (cs := [.int .i64 0, .int .i64 0]) g5; have kb := kq.2; have kb0 := kb.cell 0 _ rfl; have kbf0 := kb.frozen 0; have kbn0 := World.new_ne w5 _ kb0; have kb1 := kb.cell 1 _ rfl; have kbf1 := kb.frozen 1; have kbn1 := World.new_ne w5 _ kb1; have kbl := kb.lt) | (have kb := kb.ext g5; have kc := kc.ext g5; have kb0 := kb.cell 0 _ rfl; have kbf0 := kb.frozen 0; have kbn0 := World.new_ne w5 _ kb0; have kb1 := kb.cell 1 _ rfl; have kbf1 := kb.frozen 1; have kbn1 := World.new_ne w5 _ kb1; have kbl := kb.lt; have kc0 := kc.cell 0 _ rfl; have kcf0 := kc.frozen 0; have kcn0 := World.new_ne w5 _ kc0; have kc1 := kc.cell 1 _ rfl; have kcf1 := kc.frozen 1; have kcn1 := World.new_ne w5 _ kc1; have kcl := kc.lt) | (have kb := kb.ext g5; have kb0 := kb.cell 0 _ rfl; have kbf0 := kb.frozen 0; have kbn0 := World.new_ne w5 _ kb0; have kb1 := kb.cell 1 _ rfl; have kbf1 := kb.frozen 1; have kbn1 := World.new_ne w5 _ kb1; have kbl := kb.lt) | skip); have j0 : w5.cell? ⟨w.heap.size, 0, none⟩ = some (.int .u32 A) := gX.cell h0; have j1 : w5.cell? ⟨w.heap.size, 1, none⟩ = some (.int .u32 B) := gX.cell h1; have j2 : w5.cell? ⟨w.heap.size, 2, none⟩ = some (.int .u32 dn) := gX.cell h2; have j3 : w5.cell? ⟨w.heap.size, 3, none⟩ = some (.int .u32 up) := gX.cell h3; have j4 : w5.cell? ⟨w.heap.size, 4, none⟩ = some (.int .u32 lo) := gX.cell h4; have j5 : w5.cell? ⟨w.heap.size, 5, none⟩ = some (.int .u32 hi) := gX.cell h5; have m0 := World.new_ne w5 _ j0; have m1 := World.new_ne w5 _ j1; have m2 := World.new_ne w5 _ j2; have m3 := World.new_ne w5 _ j3; have m4 := World.new_ne w5 _ j4; have m5 := World.new_ne w5 _ j5; have s5 := gX.size))
    all_goals
      go_wp2_with fail
      go_meet
      refine ⟨_, _, rfl, rfl, ?_⟩
      first
        | (with_reducible refine ab1 ?_ a b c d; exact gX)
        | (with_reducible refine ab2 ?_ a b c d; exact gX)
        | ((with_reducible refine ab3 ?_ ?_ ?_ a b c d); exact gX; exact kb; omega)
        | ((with_reducible refine ab4 ?_ ?_ ?_ a b c d); exact gX; exact kb; omega)
        | ((with_reducible refine ab5 ?_ ?_ ?_ ?_ ?_ ?_ a b c d); exact gX; (first | with_reducible exact kb | with_reducible exact kc); (first | with_reducible exact kc | with_reducible exact kb); omega; omega; omega)
  case rest =>
    obtain ⟨p, q, rfl, rfl, Bp, Bq, gq⟩ := hcut
    replace Bn := Bn.ext gq
    replace Bm := Bm.ext gq
    replace E0 := E0.trans gq
    clear h0 n0 h1 n1 h2 n2 h3 n3 h4 n4 h5 n5 gq hlt0
    have hm0 := Bm.cell 0 _ rfl
    have hm1 := Bm.cell 1 _ rfl
    have hm2 := Bm.cell 2 _ rfl
    have hm3 := Bm.cell 3 _ rfl
    have hp0 := Bp.cell 0 _ rfl
    have hp1 := Bp.cell 1 _ rfl
    go_upto_region 3 with fail
    go_cut [10] (fun z wx => ∃ r, z = .pointer (some ⟨r, 0, none⟩) ∧ Blk wx r 23 [.int .i64 a', .int .i64 b'] ∧ Blk wx p 23 [.int .i64 a, .int .i64 b] ∧ Blk wx q 23 [.int .i64 c, .int .i64 d] ∧ Blk wx (w.heap.size + 1) 34 [.int .u32 u, .int .u32 v, .int .u32 x, .int .u32 y] ∧ Ext w wx)
    case first =>
      go_wp2_with fail
      all_goals
        refine (iv_at _ _ _ _ a' b' _ (by first | (have := ea'.out; omega)) (by first | (have := eb'.out; omega)) (from_any _ _ _)).mono ?_
        rintro e3 w3 ⟨rfl, g3⟩
        go_wp2_with fail
        go_meet
        exact ⟨_, rfl, Blk.new w3 [.int .i64 a', .int .i64 b'] _, (Bp.ext g3).alloc _, (Bq.ext g3).alloc _, (Bm.ext g3).alloc _, (E0.trans g3).alloc _⟩
    case rest =>
      obtain ⟨r, rfl, Br, Bp, Bq, Bm, E0⟩ := hcut
      clear hm0 hm1 hm2 hm3 hp0 hp1
      have hm2 := Bm.cell 2 _ rfl
      have hm3 := Bm.cell 3 _ rfl
      have hq0 := Bq.cell 0 _ rfl
      have hq1 := Bq.cell 1 _ rfl
      go_upto_region 4 with fail
      go_cut [11] (fun z wx => ∃ s, z = .pointer (some ⟨s, 0, none⟩) ∧ Blk wx s 23 [.int .i64 c', .int .i64 d'] ∧ Blk wx r 23 [.int .i64 a', .int .i64 b'] ∧ Blk wx p 23 [.int .i64 a, .int .i64 b] ∧ Blk wx q 23 [.int .i64 c, .int .i64 d] ∧ Ext w wx)
      case first =>
        go_wp2_with fail
        all_goals
          refine (iv_at _ _ _ _ c' d' _ (by first | (have := ec'.out; omega)) (by first | (have := ed'.out; omega)) (from_any _ _ _)).mono ?_
          rintro e3 w3 ⟨rfl, g3⟩
          go_wp2_with fail
          go_meet
          exact ⟨_, rfl, Blk.new w3 [.int .i64 c', .int .i64 d'] _, (Br.ext g3).alloc _, (Bp.ext g3).alloc _, (Bq.ext g3).alloc _, (E0.trans g3).alloc _⟩
      case rest =>
        obtain ⟨s, rfl, Bs, Br, Bp, Bq, E0⟩ := hcut
        clear hm2 hm3 hq0 hq1
        have hp0 := Bp.cell 0 _ rfl
        have hp1 := Bp.cell 1 _ rfl
        have hq0 := Bq.cell 0 _ rfl
        have hq1 := Bq.cell 1 _ rfl
        go_wp2_with fail
        refine (tup_at _ _ _ _ _ _ _ _ _ ezl.out ezh.out eer.out (ivapply_any o a b c d _)).mono ?_
        rintro e5 w5 ⟨rfl, g5⟩
        have By := Blk.new w5 [.int .i64 zl, .int .i64 zh] 23
        replace Br := (Br.ext g5).alloc (.cells #[.int .i64 zl, .int .i64 zh] 23)
        replace Bs := (Bs.ext g5).alloc (.cells #[.int .i64 zl, .int .i64 zh] 23)
        replace E0 := (E0.trans g5).alloc (.cells #[.int .i64 zl, .int .i64 zh] 23)
        clear g5
        obtain ⟨p5, hp5⟩ : ∃ p, w5.heap.size = p := ⟨_, rfl⟩
        rw [hp5] at By
        clear hp0 hp1 hq0 hq1
        have hr0 := Br.cell 0 _ rfl
        have hr1 := Br.cell 1 _ rfl
        have hs0 := Bs.cell 0 _ rfl
        have hs1 := Bs.cell 1 _ rfl
        go_wp2_with fail
        refine (tup_at _ _ _ _ _ _ _ _ _ eyl.out eyh.out eer'.out (ivapply_any o a' b' c' d' _)).mono ?_
        rintro e6 w6 ⟨rfl, g6⟩
        have Bz := Blk.new w6 [.int .i64 yl, .int .i64 yh] 23
        replace By := (By.ext g6).alloc (.cells #[.int .i64 yl, .int .i64 yh] 23)
        replace E0 := (E0.trans g6).alloc (.cells #[.int .i64 yl, .int .i64 yh] 23)
        clear g6
        obtain ⟨p6, hp6⟩ : ∃ p, w6.heap.size = p := ⟨_, rfl⟩
        rw [hp6] at Bz
        clear hr0 hr1 hs0 hs1
        go_wp2_with fail
        refine (awake_any _).mono ?_
        rintro e7 w7 ⟨rfl, g7⟩
        replace By := (By.ext g7)
        replace Bz := (Bz.ext g7)
        replace E0 := (E0.trans g7)
        clear g7
        have hy0 := By.cell 0 _ rfl
        have hy1 := By.cell 1 _ rfl
        have hz0 := Bz.cell 0 _ rfl
        have hz1 := Bz.cell 1 _ rfl
        go_wp2_with fail
        refine (bool_at _ _ _ _ _ hw.out (within_any _ _ _ _ _)).mono ?_
        rintro e8 w8 ⟨rfl, g8⟩
        replace E0 := E0.trans g8
        go_wp2_with fail
        go_ret
        exact ⟨rfl, E0⟩
theorem IntervalMonotone_any (op A B dn up lo hi u v x y : Int) (op0 : 0 ≤ op) (op1 : op ≤ 255) (A0 : 0 ≤ A) (A1 : A ≤ 4294967295) (B0 : 0 ≤ B) (B1 : B ≤ 4294967295) (dn0 : 0 ≤ dn) (dn1 : dn ≤ 4294967295) (up0 : 0 ≤ up) (up1 : up ≤ 4294967295) (lo0 : 0 ≤ lo) (lo1 : lo ≤ 4294967295) (hi0 : 0 ≤ hi) (hi1 : hi ≤ 4294967295) (u0 : 0 ≤ u) (u1 : u ≤ 4294967295) (v0 : 0 ≤ v) (v1 : v ≤ 4294967295) (x0 : 0 ≤ x) (x1 : x ≤ 4294967295) (y0 : 0 ≤ y) (y1 : y ≤ 4294967295) (w : World) : Calls Try.prog 4 #[.int .u8 op, .agg #[.int .u32 A, .int .u32 B, .int .u32 dn, .int .u32 up, .int .u32 lo, .int .u32 hi], .agg #[.int .u32 u, .int .u32 v, .int .u32 x, .int .u32 y]] w fun x w' => x = .returned (.bool true) ∧ Ext w w' := by
  obtain ⟨o, eo⟩ : ∃ o, 8 + op % 19 = o := ⟨_, rfl⟩
  obtain ⟨a, ea⟩ : ∃ a, max 0 (A - dn) = a := ⟨_, rfl⟩
  obtain ⟨b, eb⟩ : ∃ b, min 4294967295 (A + up) = b := ⟨_, rfl⟩
  obtain ⟨c, ec⟩ : ∃ c, max 0 (B - lo) = c := ⟨_, rfl⟩
  obtain ⟨d, ed⟩ : ∃ d, min 4294967295 (B + hi) = d := ⟨_, rfl⟩
  obtain ⟨a', ea'⟩ : ∃ z, max 0 (a - u) = z := ⟨_, rfl⟩
  obtain ⟨b', eb'⟩ : ∃ z, min 4294967295 (b + v) = z := ⟨_, rfl⟩
  obtain ⟨c', ec'⟩ : ∃ z, max 0 (c - x) = z := ⟨_, rfl⟩
  obtain ⟨d', ed'⟩ : ∃ z, min 4294967295 (d + y) = z := ⟨_, rfl⟩
  by_cases hz : c' = 0 ∧ (o = 11 ∨ o = 12)
  · have hd := iaF_div o a' b' c' d' (by omega) (by omega) (by unfold Ivl; omega) (by unfold Ivl; omega) hz.1 hz.2
    have he : (iaF o a' b' c' d').2.2 = 17 := by rw [hd]
    exact mono_div op A B dn up lo hi u v x y op0 op1 A0 A1 B0 B1 dn0 dn1 up0 up1 lo0 lo1 hi0 hi1 u0 u1 v0 v1 x0 x1 y0 y1 o a b c d a' b' c' d' _ _ _ _ eo ea eb ec ed ea' eb' ec' ed' _ 17 rfl rfl rfl rfl rfl he (by simp) w
  · obtain ⟨m1, m2, m3, m4, m5, m6⟩ := iaF_mono (a := a) (b := b) (c := c) (d := d) (a' := a') (b' := b') (c' := c') (d' := d') o (by omega) (by omega) (by intro e; omega) (by omega) (by omega) (by omega) (by omega) (by omega) (by omega) (by omega) (by omega) (by omega) (by omega)
    exact mono_ok op A B dn up lo hi u v x y op0 op1 A0 A1 B0 B1 dn0 dn1 up0 up1 lo0 lo1 hi0 hi1 u0 u1 v0 v1 x0 x1 y0 y1 o a b c d a' b' c' d' _ _ _ _ eo ea eb ec ed ea' eb' ec' ed' rfl rfl m1 rfl rfl m2 ((wit_iff _ _ _ _).2 ⟨m3, m4, m5, m6⟩) w
end Go.Proofs.Ytbpnagamcohlnaa
