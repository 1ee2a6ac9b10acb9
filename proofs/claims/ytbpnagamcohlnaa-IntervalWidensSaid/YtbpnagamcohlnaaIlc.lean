/- The walk of IntervalSound. -/
import Derived.Test.YtbpnagamcohlnaaIla
import Derived.Test.YtbpnagamcohlnaaIm
import Derived.Deep.Cut
import Derived.Deep.DeepCutAuto
namespace Go.Proofs.Ytbpnagamcohlnaa
open Go.RowKit
set_option linter.unusedVariables false


theorem newb {wr wA w5 : World} {t : TypeId} {cs : List Value} (h : wr.heap.size ≤ wA.heap.size) (g : Ext (wA.alloc (.cells cs.toArray t)) w5) : wr.heap.size ≤ wA.heap.size ∧ Blk w5 wA.heap.size t cs := ⟨h, (Blk.new wA cs t).ext g⟩
theorem newb_drew {wr wA w5 : World} {t : TypeId} {cs : List Value} (h : wr.heap.size ≤ wA.heap.size) (g : Ext (wA.alloc (.cells cs.toArray t)).drew w5) : wr.heap.size ≤ wA.heap.size ∧ Blk w5 wA.heap.size t cs := ⟨h, (Blk.new wA cs t).drew.ext g⟩
theorem utup_at (nm : Nat) (xs : Array Value) (l e l' e' : Int) (w : World) (hl : l = l') (he : e = e') (hc : Calls Try.prog nm xs w fun x w' => x = .returned (.tuple #[.int .u32 l, .int .i64 e]) ∧ w = w') : Calls Try.prog nm xs w fun x w' => x = .returned (.tuple #[.int .u32 l', .int .i64 e']) ∧ w = w' := by rw [← hl, ← he]; exact hc
set_option maxHeartbeats 4000000 in
theorem sound_d1 (op A B dn up lo hi : Int) (op0 : 0 ≤ op) (op1 : op ≤ 255) (A0 : 0 ≤ A) (A1 : A ≤ 4294967295) (B0 : 0 ≤ B) (B1 : B ≤ 4294967295) (dn0 : 0 ≤ dn) (dn1 : dn ≤ 4294967295) (up0 : 0 ≤ up) (up1 : up ≤ 4294967295) (lo0 : 0 ≤ lo) (lo1 : lo ≤ 4294967295) (hi0 : 0 ≤ hi) (hi1 : hi ≤ 4294967295) (o a b c d zl zh n f : Int) (eo : 8 + op % 19 = o) (ea : max 0 (A - dn) = a) (eb : min 4294967295 (A + up) = b) (ec : max 0 (B - lo) = c) (ed : min 4294967295 (B + hi) = d) (el : (iaF o a b c d).1 = zl) (eh : (iaF o a b c d).2.1 = zh) (eer : (iaF o a b c d).2.2 = 17) (en : (apF o A B).1 = n) (ef : (apF o A B).2 = f) (ho : (o == 11) = true) (hlo : B ≤ lo) (w : World) : Calls Try.prog 7 #[.int .u8 op, .agg #[.int .u32 A, .int .u32 B, .int .u32 dn, .int .u32 up, .int .u32 lo, .int .u32 hi]] w fun x w' => x = .returned (.bool true) ∧ Ext w w' := by
  replace ea := hidden ea
  replace eb := hidden eb
  replace ec := hidden ec
  replace ed := hidden ed
  replace el := hidden el
  replace eh := hidden eh
  replace eer := hidden eer
  replace en := hidden en
  replace ef := hidden ef
  have B0 := Blk.new w [.int .u32 A, .int .u32 B, .int .u32 dn, .int .u32 up, .int .u32 lo, .int .u32 hi] 33
  have E0 : Ext w (w.alloc (.cells #[.int .u32 A, .int .u32 B, .int .u32 dn, .int .u32 up, .int .u32 lo, .int .u32 hi] 33)) := (Ext.refl w).alloc _
  go_enter Try.func7, Try.ntmps7
  go_upto_region 2 with fail
  replace eo := hidden eo
  obtain ⟨V0, hV⟩ : ∃ V, w.alloc (.cells #[.int .u32 A, .int .u32 B, .int .u32 dn, .int .u32 up, .int .u32 lo, .int .u32 hi] 33) = V := ⟨_, rfl⟩
  have B0 : Blk V0 w.heap.size 33 [.int .u32 A, .int .u32 B, .int .u32 dn, .int .u32 up, .int .u32 lo, .int .u32 hi] := hV ▸ B0
  rw [hV] at E0 ⊢
  clear hV
  have h0 := B0.cell 0 _ rfl
  have h1 := B0.cell 1 _ rfl
  have h2 := B0.cell 2 _ rfl
  have h3 := B0.cell 3 _ rfl
  have h4 := B0.cell 4 _ rfl
  have h5 := B0.cell 5 _ rfl
  have n0 := World.new_ne V0 _ h0
  have n1 := World.new_ne V0 _ h1
  have n2 := World.new_ne V0 _ h2
  have n3 := World.new_ne V0 _ h3
  have n4 := World.new_ne V0 _ h4
  have n5 := World.new_ne V0 _ h5
  go_cut [6, 7] (fun s6 s7 wx => ∃ q, s6 = .pointer (some ⟨q, 0, none⟩) ∧ s7 = .int .i64 17 ∧ Blk wx q 23 [.int .i64 zl, .int .i64 zh] ∧ Ext V0 wx)
  case first =>
    go_region_held3 (fun w' => w'.cell? ⟨w.heap.size, 0, none⟩ = some (.int .u32 A) ∧ w'.cell? ⟨w.heap.size, 1, none⟩ = some (.int .u32 B) ∧ w'.cell? ⟨w.heap.size, 2, none⟩ = some (.int .u32 dn) ∧ w'.cell? ⟨w.heap.size, 3, none⟩ = some (.int .u32 up) ∧ w'.cell? ⟨w.heap.size, 4, none⟩ = some (.int .u32 lo) ∧ w'.cell? ⟨w.heap.size, 5, none⟩ = some (.int .u32 hi)) (go_keep)
      (first | (go_at_call 13; refine (iv_at _ _ _ _ _ _ _ (by first | exact ea.out | exact ec.out) (by first | exact eb.out | exact ed.out) (around_any _ _ _ (by omega) (by omega) (by omega) (by omega) (by omega) (by omega) _)).mono ?_; rintro e w5 ⟨rfl, g5⟩; (first | (have kq := newb (wr := V0) (t := 23) (cs := [.int .i64 0, .int .i64 0]) (by first | exact gX.size | exact Nat.le_refl _) g5; have kb := kq.2; have kb0 := kb.cell 0 _ rfl; have kb1 := kb.cell 1 _ rfl; have kf0 := kb.frozen 0; have kf1 := kb.frozen 1) | (have kq := newb_drew (wr := V0) (t := 23) (cs := [.int .i64 0, .int .i64 0]) (by first | exact gX.size | exact Nat.le_refl _) g5; have kb := kq.2; have kb0 := kb.cell 0 _ rfl; have kb1 := kb.cell 1 _ rfl; have kf0 := kb.frozen 0; have kf1 := kb.frozen 1) | (have kb := kb.ext g5; have kb0 := kb.cell 0 _ rfl; have kb1 := kb.cell 1 _ rfl; have kf0 := kb.frozen 0; have kf1 := kb.frozen 1) | skip); have gX : Ext V0 w5 := (by first | exact Ext.trans gX g5 | exact (Ext.trans gX g5.past) | exact g5.past_drew | exact g5.past_drew.past | exact g5); have j0 : w5.cell? ⟨w.heap.size, 0, none⟩ = some (.int .u32 A) := gX.cell h0; have j1 : w5.cell? ⟨w.heap.size, 1, none⟩ = some (.int .u32 B) := gX.cell h1; have j2 : w5.cell? ⟨w.heap.size, 2, none⟩ = some (.int .u32 dn) := gX.cell h2; have j3 : w5.cell? ⟨w.heap.size, 3, none⟩ = some (.int .u32 up) := gX.cell h3; have j4 : w5.cell? ⟨w.heap.size, 4, none⟩ = some (.int .u32 lo) := gX.cell h4; have j5 : w5.cell? ⟨w.heap.size, 5, none⟩ = some (.int .u32 hi) := gX.cell h5; have m0 := World.new_ne w5 _ j0; have m1 := World.new_ne w5 _ j1; have m2 := World.new_ne w5 _ j2; have m3 := World.new_ne w5 _ j3; have m4 := World.new_ne w5 _ j4; have m5 := World.new_ne w5 _ j5) | (go_at_call 10; refine (tup_at _ _ _ _ _ _ _ _ _ el.out eh.out eer.out (ivapply_any o a b c d _)).mono ?_; rintro e w5 ⟨rfl, g5⟩; (first | (have kq := newb (wr := V0) (t := 23) (cs := [.int .i64 0, .int .i64 0]) (by first | exact gX.size | exact Nat.le_refl _) g5; have kb := kq.2; have kb0 := kb.cell 0 _ rfl; have kb1 := kb.cell 1 _ rfl; have kf0 := kb.frozen 0; have kf1 := kb.frozen 1) | (have kq := newb_drew (wr := V0) (t := 23) (cs := [.int .i64 0, .int .i64 0]) (by first | exact gX.size | exact Nat.le_refl _) g5; have kb := kq.2; have kb0 := kb.cell 0 _ rfl; have kb1 := kb.cell 1 _ rfl; have kf0 := kb.frozen 0; have kf1 := kb.frozen 1) | (have kb := kb.ext g5; have kb0 := kb.cell 0 _ rfl; have kb1 := kb.cell 1 _ rfl; have kf0 := kb.frozen 0; have kf1 := kb.frozen 1) | skip); have gX : Ext V0 w5 := (by first | exact Ext.trans gX g5 | exact (Ext.trans gX g5.past) | exact g5.past_drew | exact g5.past_drew.past | exact g5); have j0 : w5.cell? ⟨w.heap.size, 0, none⟩ = some (.int .u32 A) := gX.cell h0; have j1 : w5.cell? ⟨w.heap.size, 1, none⟩ = some (.int .u32 B) := gX.cell h1; have j2 : w5.cell? ⟨w.heap.size, 2, none⟩ = some (.int .u32 dn) := gX.cell h2; have j3 : w5.cell? ⟨w.heap.size, 3, none⟩ = some (.int .u32 up) := gX.cell h3; have j4 : w5.cell? ⟨w.heap.size, 4, none⟩ = some (.int .u32 lo) := gX.cell h4; have j5 : w5.cell? ⟨w.heap.size, 5, none⟩ = some (.int .u32 hi) := gX.cell h5; have m0 := World.new_ne w5 _ j0; have m1 := World.new_ne w5 _ j1; have m2 := World.new_ne w5 _ j2; have m3 := World.new_ne w5 _ j3; have m4 := World.new_ne w5 _ j4; have m5 := World.new_ne w5 _ j5))
    all_goals
      go_wp2_with fail
      go_meet
      first
        | exact ⟨w5.heap.size, rfl, rfl, Blk.new w5 [.int .i64 zl, .int .i64 zh] _, gX.alloc _⟩
        | exact ⟨_, rfl, rfl, (kb.set 0 _).set 1 _, (gX.setCell kq.1 _).setCell kq.1 _⟩
  case rest =>
    obtain ⟨q, rfl, rfl, Bq, gq⟩ := hcut
    replace B0 := B0.ext gq
    replace E0 := E0.trans gq
    clear h0 n0 h1 n1 h2 n2 h3 n3 h4 n4 h5 n5 gq
    have h0 := B0.cell 0 _ rfl
    have h1 := B0.cell 1 _ rfl
    have h2 := B0.cell 2 _ rfl
    have h3 := B0.cell 3 _ rfl
    have h4 := B0.cell 4 _ rfl
    have h5 := B0.cell 5 _ rfl
    go_wp2_with fail
    refine (utup_at _ _ _ _ _ _ _ en.out ef.out (rapply_any o A B A0 A1 (by omega) B1 _)).mono ?_
    rintro e3 w3 ⟨rfl, rfl⟩
    go_wp2_with fail
    refine (awake_any _).mono ?_
    rintro e4 w4 ⟨rfl, g4⟩
    replace B0 := B0.ext g4
    replace Bq := Bq.ext g4
    replace E0 := E0.trans g4
    clear h0 h1 h2 h3 h4 h5 g4
    have h0 := B0.cell 0 _ rfl
    have h1 := B0.cell 1 _ rfl
    have h2 := B0.cell 2 _ rfl
    have h3 := B0.cell 3 _ rfl
    have h4 := B0.cell 4 _ rfl
    have h5 := B0.cell 5 _ rfl
    have hq0 := Bq.cell 0 _ rfl
    have hq1 := Bq.cell 1 _ rfl
    go_wp2_with fail
    go_ret
    exact ⟨rfl, E0⟩
set_option maxHeartbeats 4000000 in
theorem sound_d2 (op A B dn up lo hi : Int) (op0 : 0 ≤ op) (op1 : op ≤ 255) (A0 : 0 ≤ A) (A1 : A ≤ 4294967295) (B0 : 0 ≤ B) (B1 : B ≤ 4294967295) (dn0 : 0 ≤ dn) (dn1 : dn ≤ 4294967295) (up0 : 0 ≤ up) (up1 : up ≤ 4294967295) (lo0 : 0 ≤ lo) (lo1 : lo ≤ 4294967295) (hi0 : 0 ≤ hi) (hi1 : hi ≤ 4294967295) (o a b c d zl zh n f : Int) (eo : 8 + op % 19 = o) (ea : max 0 (A - dn) = a) (eb : min 4294967295 (A + up) = b) (ec : max 0 (B - lo) = c) (ed : min 4294967295 (B + hi) = d) (el : (iaF o a b c d).1 = zl) (eh : (iaF o a b c d).2.1 = zh) (eer : (iaF o a b c d).2.2 = 17) (en : (apF o A B).1 = n) (ef : (apF o A B).2 = f) (ho1 : (o == 11) = false) (ho : (o == 12) = true) (hlo : B ≤ lo) (w : World) : Calls Try.prog 7 #[.int .u8 op, .agg #[.int .u32 A, .int .u32 B, .int .u32 dn, .int .u32 up, .int .u32 lo, .int .u32 hi]] w fun x w' => x = .returned (.bool true) ∧ Ext w w' := by
  replace ea := hidden ea
  replace eb := hidden eb
  replace ec := hidden ec
  replace ed := hidden ed
  replace el := hidden el
  replace eh := hidden eh
  replace eer := hidden eer
  replace en := hidden en
  replace ef := hidden ef
  have B0 := Blk.new w [.int .u32 A, .int .u32 B, .int .u32 dn, .int .u32 up, .int .u32 lo, .int .u32 hi] 33
  have E0 : Ext w (w.alloc (.cells #[.int .u32 A, .int .u32 B, .int .u32 dn, .int .u32 up, .int .u32 lo, .int .u32 hi] 33)) := (Ext.refl w).alloc _
  go_enter Try.func7, Try.ntmps7
  go_upto_region 2 with fail
  replace eo := hidden eo
  obtain ⟨V0, hV⟩ : ∃ V, w.alloc (.cells #[.int .u32 A, .int .u32 B, .int .u32 dn, .int .u32 up, .int .u32 lo, .int .u32 hi] 33) = V := ⟨_, rfl⟩
  have B0 : Blk V0 w.heap.size 33 [.int .u32 A, .int .u32 B, .int .u32 dn, .int .u32 up, .int .u32 lo, .int .u32 hi] := hV ▸ B0
  rw [hV] at E0 ⊢
  clear hV
  have h0 := B0.cell 0 _ rfl
  have h1 := B0.cell 1 _ rfl
  have h2 := B0.cell 2 _ rfl
  have h3 := B0.cell 3 _ rfl
  have h4 := B0.cell 4 _ rfl
  have h5 := B0.cell 5 _ rfl
  have n0 := World.new_ne V0 _ h0
  have n1 := World.new_ne V0 _ h1
  have n2 := World.new_ne V0 _ h2
  have n3 := World.new_ne V0 _ h3
  have n4 := World.new_ne V0 _ h4
  have n5 := World.new_ne V0 _ h5
  go_cut [6, 7] (fun s6 s7 wx => ∃ q, s6 = .pointer (some ⟨q, 0, none⟩) ∧ s7 = .int .i64 17 ∧ Blk wx q 23 [.int .i64 zl, .int .i64 zh] ∧ Ext V0 wx)
  case first =>
    go_region_held3 (fun w' => w'.cell? ⟨w.heap.size, 0, none⟩ = some (.int .u32 A) ∧ w'.cell? ⟨w.heap.size, 1, none⟩ = some (.int .u32 B) ∧ w'.cell? ⟨w.heap.size, 2, none⟩ = some (.int .u32 dn) ∧ w'.cell? ⟨w.heap.size, 3, none⟩ = some (.int .u32 up) ∧ w'.cell? ⟨w.heap.size, 4, none⟩ = some (.int .u32 lo) ∧ w'.cell? ⟨w.heap.size, 5, none⟩ = some (.int .u32 hi)) (go_keep)
      (first | (go_at_call 13; refine (iv_at _ _ _ _ _ _ _ (by first | exact ea.out | exact ec.out) (by first | exact eb.out | exact ed.out) (around_any _ _ _ (by omega) (by omega) (by omega) (by omega) (by omega) (by omega) _)).mono ?_; rintro e w5 ⟨rfl, g5⟩; (first | (have kq := newb (wr := V0) (t := 23) (cs := [.int .i64 0, .int .i64 0]) (by first | exact gX.size | exact Nat.le_refl _) g5; have kb := kq.2; have kb0 := kb.cell 0 _ rfl; have kb1 := kb.cell 1 _ rfl; have kf0 := kb.frozen 0; have kf1 := kb.frozen 1) | (have kq := newb_drew (wr := V0) (t := 23) (cs := [.int .i64 0, .int .i64 0]) (by first | exact gX.size | exact Nat.le_refl _) g5; have kb := kq.2; have kb0 := kb.cell 0 _ rfl; have kb1 := kb.cell 1 _ rfl; have kf0 := kb.frozen 0; have kf1 := kb.frozen 1) | (have kb := kb.ext g5; have kb0 := kb.cell 0 _ rfl; have kb1 := kb.cell 1 _ rfl; have kf0 := kb.frozen 0; have kf1 := kb.frozen 1) | skip); have gX : Ext V0 w5 := (by first | exact Ext.trans gX g5 | exact (Ext.trans gX g5.past) | exact g5.past_drew | exact g5.past_drew.past | exact g5); have j0 : w5.cell? ⟨w.heap.size, 0, none⟩ = some (.int .u32 A) := gX.cell h0; have j1 : w5.cell? ⟨w.heap.size, 1, none⟩ = some (.int .u32 B) := gX.cell h1; have j2 : w5.cell? ⟨w.heap.size, 2, none⟩ = some (.int .u32 dn) := gX.cell h2; have j3 : w5.cell? ⟨w.heap.size, 3, none⟩ = some (.int .u32 up) := gX.cell h3; have j4 : w5.cell? ⟨w.heap.size, 4, none⟩ = some (.int .u32 lo) := gX.cell h4; have j5 : w5.cell? ⟨w.heap.size, 5, none⟩ = some (.int .u32 hi) := gX.cell h5; have m0 := World.new_ne w5 _ j0; have m1 := World.new_ne w5 _ j1; have m2 := World.new_ne w5 _ j2; have m3 := World.new_ne w5 _ j3; have m4 := World.new_ne w5 _ j4; have m5 := World.new_ne w5 _ j5) | (go_at_call 10; refine (tup_at _ _ _ _ _ _ _ _ _ el.out eh.out eer.out (ivapply_any o a b c d _)).mono ?_; rintro e w5 ⟨rfl, g5⟩; (first | (have kq := newb (wr := V0) (t := 23) (cs := [.int .i64 0, .int .i64 0]) (by first | exact gX.size | exact Nat.le_refl _) g5; have kb := kq.2; have kb0 := kb.cell 0 _ rfl; have kb1 := kb.cell 1 _ rfl; have kf0 := kb.frozen 0; have kf1 := kb.frozen 1) | (have kq := newb_drew (wr := V0) (t := 23) (cs := [.int .i64 0, .int .i64 0]) (by first | exact gX.size | exact Nat.le_refl _) g5; have kb := kq.2; have kb0 := kb.cell 0 _ rfl; have kb1 := kb.cell 1 _ rfl; have kf0 := kb.frozen 0; have kf1 := kb.frozen 1) | (have kb := kb.ext g5; have kb0 := kb.cell 0 _ rfl; have kb1 := kb.cell 1 _ rfl; have kf0 := kb.frozen 0; have kf1 := kb.frozen 1) | skip); have gX : Ext V0 w5 := (by first | exact Ext.trans gX g5 | exact (Ext.trans gX g5.past) | exact g5.past_drew | exact g5.past_drew.past | exact g5); have j0 : w5.cell? ⟨w.heap.size, 0, none⟩ = some (.int .u32 A) := gX.cell h0; have j1 : w5.cell? ⟨w.heap.size, 1, none⟩ = some (.int .u32 B) := gX.cell h1; have j2 : w5.cell? ⟨w.heap.size, 2, none⟩ = some (.int .u32 dn) := gX.cell h2; have j3 : w5.cell? ⟨w.heap.size, 3, none⟩ = some (.int .u32 up) := gX.cell h3; have j4 : w5.cell? ⟨w.heap.size, 4, none⟩ = some (.int .u32 lo) := gX.cell h4; have j5 : w5.cell? ⟨w.heap.size, 5, none⟩ = some (.int .u32 hi) := gX.cell h5; have m0 := World.new_ne w5 _ j0; have m1 := World.new_ne w5 _ j1; have m2 := World.new_ne w5 _ j2; have m3 := World.new_ne w5 _ j3; have m4 := World.new_ne w5 _ j4; have m5 := World.new_ne w5 _ j5))
    all_goals
      go_wp2_with fail
      go_meet
      first
        | exact ⟨w5.heap.size, rfl, rfl, Blk.new w5 [.int .i64 zl, .int .i64 zh] _, gX.alloc _⟩
        | exact ⟨_, rfl, rfl, (kb.set 0 _).set 1 _, (gX.setCell kq.1 _).setCell kq.1 _⟩
  case rest =>
    obtain ⟨q, rfl, rfl, Bq, gq⟩ := hcut
    replace B0 := B0.ext gq
    replace E0 := E0.trans gq
    clear h0 n0 h1 n1 h2 n2 h3 n3 h4 n4 h5 n5 gq
    have h0 := B0.cell 0 _ rfl
    have h1 := B0.cell 1 _ rfl
    have h2 := B0.cell 2 _ rfl
    have h3 := B0.cell 3 _ rfl
    have h4 := B0.cell 4 _ rfl
    have h5 := B0.cell 5 _ rfl
    go_wp2_with fail
    refine (utup_at _ _ _ _ _ _ _ en.out ef.out (rapply_any o A B A0 A1 (by omega) B1 _)).mono ?_
    rintro e3 w3 ⟨rfl, rfl⟩
    go_wp2_with fail
    refine (awake_any _).mono ?_
    rintro e4 w4 ⟨rfl, g4⟩
    replace B0 := B0.ext g4
    replace Bq := Bq.ext g4
    replace E0 := E0.trans g4
    clear h0 h1 h2 h3 h4 h5 g4
    have h0 := B0.cell 0 _ rfl
    have h1 := B0.cell 1 _ rfl
    have h2 := B0.cell 2 _ rfl
    have h3 := B0.cell 3 _ rfl
    have h4 := B0.cell 4 _ rfl
    have h5 := B0.cell 5 _ rfl
    have hq0 := Bq.cell 0 _ rfl
    have hq1 := Bq.cell 1 _ rfl
    go_wp2_with fail
    go_ret
    exact ⟨rfl, E0⟩
set_option maxHeartbeats 4000000 in
theorem sound_ok (op A B dn up lo hi : Int) (op0 : 0 ≤ op) (op1 : op ≤ 255) (A0 : 0 ≤ A) (A1 : A ≤ 4294967295) (B0 : 0 ≤ B) (B1 : B ≤ 4294967295) (dn0 : 0 ≤ dn) (dn1 : dn ≤ 4294967295) (up0 : 0 ≤ up) (up1 : up ≤ 4294967295) (lo0 : 0 ≤ lo) (lo1 : lo ≤ 4294967295) (hi0 : 0 ≤ hi) (hi1 : hi ≤ 4294967295) (o a b c d zl zh n f : Int) (eo : 8 + op % 19 = o) (ea : max 0 (A - dn) = a) (eb : min 4294967295 (A + up) = b) (ec : max 0 (B - lo) = c) (ed : min 4294967295 (B + hi) = d) (el : (iaF o a b c d).1 = zl) (eh : (iaF o a b c d).2.1 = zh) (eer : (iaF o a b c d).2.2 = 0) (en : (apF o A B).1 = n) (ef : (apF o A B).2 = f) (hf : f = 0) (hn0 : 0 ≤ n) (hn1 : n ≤ 4294967295) (hcon : conB zl zh n = true) (hiv : Ivl zl zh) (w : World) : Calls Try.prog 7 #[.int .u8 op, .agg #[.int .u32 A, .int .u32 B, .int .u32 dn, .int .u32 up, .int .u32 lo, .int .u32 hi]] w fun x w' => x = .returned (.bool true) ∧ Ext w w' := by
  replace ea := hidden ea
  replace eb := hidden eb
  replace ec := hidden ec
  replace ed := hidden ed
  replace el := hidden el
  replace eh := hidden eh
  replace eer := hidden eer
  replace en := hidden en
  replace ef := hidden ef
  subst hf
  replace hcon := hidden hcon
  replace hiv := hidden hiv
  have B0 := Blk.new w [.int .u32 A, .int .u32 B, .int .u32 dn, .int .u32 up, .int .u32 lo, .int .u32 hi] 33
  have E0 : Ext w (w.alloc (.cells #[.int .u32 A, .int .u32 B, .int .u32 dn, .int .u32 up, .int .u32 lo, .int .u32 hi] 33)) := (Ext.refl w).alloc _
  go_enter Try.func7, Try.ntmps7
  go_upto_region 2 with fail
  replace eo := hidden eo
  obtain ⟨V0, hV⟩ : ∃ V, w.alloc (.cells #[.int .u32 A, .int .u32 B, .int .u32 dn, .int .u32 up, .int .u32 lo, .int .u32 hi] 33) = V := ⟨_, rfl⟩
  have B0 : Blk V0 w.heap.size 33 [.int .u32 A, .int .u32 B, .int .u32 dn, .int .u32 up, .int .u32 lo, .int .u32 hi] := hV ▸ B0
  rw [hV] at E0 ⊢
  clear hV
  have h0 := B0.cell 0 _ rfl
  have h1 := B0.cell 1 _ rfl
  have h2 := B0.cell 2 _ rfl
  have h3 := B0.cell 3 _ rfl
  have h4 := B0.cell 4 _ rfl
  have h5 := B0.cell 5 _ rfl
  have n0 := World.new_ne V0 _ h0
  have n1 := World.new_ne V0 _ h1
  have n2 := World.new_ne V0 _ h2
  have n3 := World.new_ne V0 _ h3
  have n4 := World.new_ne V0 _ h4
  have n5 := World.new_ne V0 _ h5
  go_cut [6, 7] (fun s6 s7 wx => ∃ q, s6 = .pointer (some ⟨q, 0, none⟩) ∧ s7 = .int .i64 0 ∧ Blk wx q 23 [.int .i64 zl, .int .i64 zh] ∧ Ext V0 wx)
  case first =>
    go_region_held3 (fun w' => w'.cell? ⟨w.heap.size, 0, none⟩ = some (.int .u32 A) ∧ w'.cell? ⟨w.heap.size, 1, none⟩ = some (.int .u32 B) ∧ w'.cell? ⟨w.heap.size, 2, none⟩ = some (.int .u32 dn) ∧ w'.cell? ⟨w.heap.size, 3, none⟩ = some (.int .u32 up) ∧ w'.cell? ⟨w.heap.size, 4, none⟩ = some (.int .u32 lo) ∧ w'.cell? ⟨w.heap.size, 5, none⟩ = some (.int .u32 hi)) (go_keep)
      (first | (go_at_call 13; refine (iv_at _ _ _ _ _ _ _ (by first | exact ea.out | exact ec.out) (by first | exact eb.out | exact ed.out) (around_any _ _ _ (by omega) (by omega) (by omega) (by omega) (by omega) (by omega) _)).mono ?_; rintro e w5 ⟨rfl, g5⟩; (first | (have kq := newb (wr := V0) (t := 23) (cs := [.int .i64 0, .int .i64 0]) (by first | exact gX.size | exact Nat.le_refl _) g5; have kb := kq.2; have kb0 := kb.cell 0 _ rfl; have kb1 := kb.cell 1 _ rfl; have kf0 := kb.frozen 0; have kf1 := kb.frozen 1) | (have kq := newb_drew (wr := V0) (t := 23) (cs := [.int .i64 0, .int .i64 0]) (by first | exact gX.size | exact Nat.le_refl _) g5; have kb := kq.2; have kb0 := kb.cell 0 _ rfl; have kb1 := kb.cell 1 _ rfl; have kf0 := kb.frozen 0; have kf1 := kb.frozen 1) | (have kb := kb.ext g5; have kb0 := kb.cell 0 _ rfl; have kb1 := kb.cell 1 _ rfl; have kf0 := kb.frozen 0; have kf1 := kb.frozen 1) | skip); have gX : Ext V0 w5 := (by first | exact Ext.trans gX g5 | exact (Ext.trans gX g5.past) | exact g5.past_drew | exact g5.past_drew.past | exact g5); have j0 : w5.cell? ⟨w.heap.size, 0, none⟩ = some (.int .u32 A) := gX.cell h0; have j1 : w5.cell? ⟨w.heap.size, 1, none⟩ = some (.int .u32 B) := gX.cell h1; have j2 : w5.cell? ⟨w.heap.size, 2, none⟩ = some (.int .u32 dn) := gX.cell h2; have j3 : w5.cell? ⟨w.heap.size, 3, none⟩ = some (.int .u32 up) := gX.cell h3; have j4 : w5.cell? ⟨w.heap.size, 4, none⟩ = some (.int .u32 lo) := gX.cell h4; have j5 : w5.cell? ⟨w.heap.size, 5, none⟩ = some (.int .u32 hi) := gX.cell h5; have m0 := World.new_ne w5 _ j0; have m1 := World.new_ne w5 _ j1; have m2 := World.new_ne w5 _ j2; have m3 := World.new_ne w5 _ j3; have m4 := World.new_ne w5 _ j4; have m5 := World.new_ne w5 _ j5) | (go_at_call 10; refine (tup_at _ _ _ _ _ _ _ _ _ el.out eh.out eer.out (ivapply_any o a b c d _)).mono ?_; rintro e w5 ⟨rfl, g5⟩; (first | (have kq := newb (wr := V0) (t := 23) (cs := [.int .i64 0, .int .i64 0]) (by first | exact gX.size | exact Nat.le_refl _) g5; have kb := kq.2; have kb0 := kb.cell 0 _ rfl; have kb1 := kb.cell 1 _ rfl; have kf0 := kb.frozen 0; have kf1 := kb.frozen 1) | (have kq := newb_drew (wr := V0) (t := 23) (cs := [.int .i64 0, .int .i64 0]) (by first | exact gX.size | exact Nat.le_refl _) g5; have kb := kq.2; have kb0 := kb.cell 0 _ rfl; have kb1 := kb.cell 1 _ rfl; have kf0 := kb.frozen 0; have kf1 := kb.frozen 1) | (have kb := kb.ext g5; have kb0 := kb.cell 0 _ rfl; have kb1 := kb.cell 1 _ rfl; have kf0 := kb.frozen 0; have kf1 := kb.frozen 1) | skip); have gX : Ext V0 w5 := (by first | exact Ext.trans gX g5 | exact (Ext.trans gX g5.past) | exact g5.past_drew | exact g5.past_drew.past | exact g5); have j0 : w5.cell? ⟨w.heap.size, 0, none⟩ = some (.int .u32 A) := gX.cell h0; have j1 : w5.cell? ⟨w.heap.size, 1, none⟩ = some (.int .u32 B) := gX.cell h1; have j2 : w5.cell? ⟨w.heap.size, 2, none⟩ = some (.int .u32 dn) := gX.cell h2; have j3 : w5.cell? ⟨w.heap.size, 3, none⟩ = some (.int .u32 up) := gX.cell h3; have j4 : w5.cell? ⟨w.heap.size, 4, none⟩ = some (.int .u32 lo) := gX.cell h4; have j5 : w5.cell? ⟨w.heap.size, 5, none⟩ = some (.int .u32 hi) := gX.cell h5; have m0 := World.new_ne w5 _ j0; have m1 := World.new_ne w5 _ j1; have m2 := World.new_ne w5 _ j2; have m3 := World.new_ne w5 _ j3; have m4 := World.new_ne w5 _ j4; have m5 := World.new_ne w5 _ j5))
    all_goals
      go_wp2_with fail
      go_meet
      first
        | exact ⟨w5.heap.size, rfl, rfl, Blk.new w5 [.int .i64 zl, .int .i64 zh] _, gX.alloc _⟩
        | exact ⟨_, rfl, rfl, (kb.set 0 _).set 1 _, (gX.setCell kq.1 _).setCell kq.1 _⟩
  case rest =>
    obtain ⟨q, rfl, rfl, Bq, gq⟩ := hcut
    replace B0 := B0.ext gq
    replace E0 := E0.trans gq
    clear h0 n0 h1 n1 h2 n2 h3 n3 h4 n4 h5 n5 gq
    have h0 := B0.cell 0 _ rfl
    have h1 := B0.cell 1 _ rfl
    have h2 := B0.cell 2 _ rfl
    have h3 := B0.cell 3 _ rfl
    have h4 := B0.cell 4 _ rfl
    have h5 := B0.cell 5 _ rfl
    go_wp2_with fail
    refine (utup_at _ _ _ _ _ _ _ en.out ef.out (rapply_any o A B A0 A1 (by omega) B1 _)).mono ?_
    rintro e3 w3 ⟨rfl, rfl⟩
    go_wp2_with fail
    refine (awake_any _).mono ?_
    rintro e4 w4 ⟨rfl, g4⟩
    replace B0 := B0.ext g4
    replace Bq := Bq.ext g4
    replace E0 := E0.trans g4
    clear h0 h1 h2 h3 h4 h5 g4
    have h0 := B0.cell 0 _ rfl
    have h1 := B0.cell 1 _ rfl
    have h2 := B0.cell 2 _ rfl
    have h3 := B0.cell 3 _ rfl
    have h4 := B0.cell 4 _ rfl
    have h5 := B0.cell 5 _ rfl
    have hq0 := Bq.cell 0 _ rfl
    have hq1 := Bq.cell 1 _ rfl
    go_wp2_with fail
    refine (bool_at _ _ _ _ _ hcon.out (contains_any _ _ _ hn0 hn1 _)).mono ?_
    rintro e5 w5 ⟨rfl, g5⟩
    replace Bq := Bq.ext g5
    replace E0 := E0.trans g5
    clear hq0 hq1 g5
    have hq0 := Bq.cell 0 _ rfl
    have hq1 := Bq.cell 1 _ rfl
    go_wp2_with fail
    refine (check_yes hiv.out _).mono ?_
    rintro e6 w6 ⟨rfl, g6⟩
    replace E0 := E0.trans g6
    go_wp2_with fail
    go_ret
    exact ⟨rfl, E0⟩
theorem IntervalSound_any (op A B dn up lo hi : Int) (op0 : 0 ≤ op) (op1 : op ≤ 255) (A0 : 0 ≤ A) (A1 : A ≤ 4294967295) (B0 : 0 ≤ B) (B1 : B ≤ 4294967295) (dn0 : 0 ≤ dn) (dn1 : dn ≤ 4294967295) (up0 : 0 ≤ up) (up1 : up ≤ 4294967295) (lo0 : 0 ≤ lo) (lo1 : lo ≤ 4294967295) (hi0 : 0 ≤ hi) (hi1 : hi ≤ 4294967295) (w : World) : Calls Try.prog 7 #[.int .u8 op, .agg #[.int .u32 A, .int .u32 B, .int .u32 dn, .int .u32 up, .int .u32 lo, .int .u32 hi]] w fun x w' => x = .returned (.bool true) ∧ Ext w w' := by
  obtain ⟨o, eo⟩ : ∃ o, 8 + op % 19 = o := ⟨_, rfl⟩
  obtain ⟨a, ea⟩ : ∃ a, max 0 (A - dn) = a := ⟨_, rfl⟩
  obtain ⟨b, eb⟩ : ∃ b, min 4294967295 (A + up) = b := ⟨_, rfl⟩
  obtain ⟨c, ec⟩ : ∃ c, max 0 (B - lo) = c := ⟨_, rfl⟩
  obtain ⟨d, ed⟩ : ∃ d, min 4294967295 (B + hi) = d := ⟨_, rfl⟩
  by_cases hz : c = 0 ∧ (o = 11 ∨ o = 12)
  · have hd := iaF_div o a b c d (by omega) (by omega) (by unfold Ivl; omega) (by unfold Ivl; omega) hz.1 hz.2
    have he : (iaF o a b c d).2.2 = 17 := by rw [hd]
    by_cases k : o = 11
    · exact sound_d1 op A B dn up lo hi op0 op1 A0 A1 B0 B1 dn0 dn1 up0 up1 lo0 lo1 hi0 hi1 o a b c d _ _ _ _ eo ea eb ec ed rfl rfl he rfl rfl (by simp [k]) (by omega) w
    · exact sound_d2 op A B dn up lo hi op0 op1 A0 A1 B0 B1 dn0 dn1 up0 up1 lo0 lo1 hi0 hi1 o a b c d _ _ _ _ eo ea eb ec ed rfl rfl he rfl rfl (by simp [k]) (by simp; omega) (by omega) w
  · obtain ⟨s1, s2⟩ := iaF_sound (a := a) (b := b) (c := c) (d := d) (A := A) (B := B) o (by omega) (by omega) (by intro x; omega) (by omega) (by omega) (by omega) (by omega) (by omega) (by omega) (by omega) (by omega)
    have hap : apF o A B = (apV o A B, 0) := apF_in (by omega) (by omega) (by omega)
    have hv := apV_bd o A B A0 A1 B0 B1
    obtain ⟨i0, i1, i2, i3⟩ := s2
    have hiv : Ivl (iaF o a b c d).1 (iaF o a b c d).2.1 := ⟨i0, by omega, i3⟩
    exact sound_ok op A B dn up lo hi op0 op1 A0 A1 B0 B1 dn0 dn1 up0 up1 lo0 lo1 hi0 hi1 o a b c d _ _ (apV o A B) 0 eo ea eb ec ed rfl rfl s1 (by rw [hap]) (by rw [hap]) rfl hv.1 hv.2 (by simp [conB, hiv, i1, i2]) hiv w
end Go.Proofs.Ytbpnagamcohlnaa
