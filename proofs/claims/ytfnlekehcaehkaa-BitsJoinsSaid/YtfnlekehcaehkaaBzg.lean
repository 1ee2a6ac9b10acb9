/- The program's Join, the good case and the whole. -/
import Derived.Test.YtfnlekehcaehkaaBze
import Derived.Deep.RegionHeld3
import Derived.Sort.CutIn
namespace Go.Proofs.Ytfnlekehcaehkaa
open Go.RowKit Go.Shelf
set_option linter.unusedVariables false
attribute [local go_sem] Oper.semAt_some

theorem tape_alloc {w : World} {p B c : Nat} {v : Value} {D : List Int} (h : Tape w p B v D c) (o : Obj) : Tape (w.alloc o) p B v D c := ⟨h.blk.alloc o, World.ownsRow.alloc h.own o, h.wf⟩
theorem tape_base {w : World} {p B B' c : Nat} {v : Value} {D : List Int} (h : Tape w p B v D c) (hb : B' ≤ B) : Tape w p B' v D c := ⟨h.blk, own_mono h.own hb, h.wf⟩
theorem tape_set {w : World} {p B c q : Nat} {v z : Value} {D : List Int} (h : Tape w p B v D c) (hq : Blk w q 57 [z]) (hne : q ≠ p) (y : Value) : Tape (w.setCell ⟨q, 0, none⟩ y) p B v D c :=
  ⟨h.blk.set_other (Ne.symm hne) y, own_chg h.own ((Chg.refl [q] w).setCell (p := ⟨q, 0, none⟩) (Or.inl (by simp)) y) (by intro xx hx; simp at hx; subst hx; exact own_ne_blk h.own hq (by decide)), h.wf⟩

theorem tape_own2 (pt B : Nat) (w0 : World) (v0 : Value) (D : List Int) (c : Nat) : Own (fun (s : List Bool) W => ∃ v', Tape W pt B v' (pshs D c (s.map b2i)) (c + s.length) ∧ Stays w0 v0 v') := fun s X Y row hs hg hrow => by
  obtain ⟨v', ⟨h1, h2, h3⟩, h4⟩ := hs
  exact ⟨v', ⟨blk_own (β := Unit) _ _ _ () X Y row h1 hg hrow, own8_grown h2 hg hrow, h3⟩, h4⟩

set_option maxRecDepth 100000 in
set_option maxHeartbeats 4000000 in
theorem join_good (u v : Value) (A D : List Int) (ca cb : Nat) (ha : Bytes A) (hb : Bytes D) (hla : A.length ≤ 60000) (hl : D.length ≤ 60000) (hwa : WF A ca) (hwf : WF D cb) (hca : ca ≤ 524288) (hcb : cb ≤ 524288) (hs : ca + cb ≤ 524288) (w : World) (hA : Rd8 w u A) (h : Rd8 w v D) :
    Calls Try.prog 18 #[.agg #[u, .int .i64 (ca : Int)], .agg #[v, .int .i64 (cb : Int)]] w (BitsPost w (0, pshs A ca (cut D 0 cb), ca + cb)) := by
  obtain ⟨X, hX⟩ : ∃ X, pshs A ca (cut D 0 cb) = X := ⟨_, rfl⟩
  obtain ⟨m, hm⟩ : ∃ m, ca + cb = m := ⟨_, rfl⟩
  rw [hX, hm]
  have HX := hidden hX
  have Hm := hidden hm
  clear hX hm
  have Hka := hidden (wf_chkb hwa hca)
  have Hkb := hidden (wf_chkb hwf hcb)
  have hlen := hwf.len
  have hy8 := hidden (show cb ≤ 8 * D.length by omega)
  clear hlen
  obtain ⟨x, hx⟩ : ∃ x, (ca : Int) = x := ⟨_, rfl⟩
  obtain ⟨y, hy⟩ : ∃ y, (cb : Int) = y := ⟨_, rfl⟩
  rw [hx] at Hka
  rw [hy] at Hkb
  rw [hx, hy]
  have hx0 : 0 ≤ x := by omega
  have hx1 : x ≤ 524288 := by omega
  have hy0 : 0 ≤ y := by omega
  have hy1 : y ≤ 524288 := by omega
  have hxy : ¬ 524288 < x + y := by omega
  have hxyd : decide (524288 < x + y) = false := by simp; omega
  have Hn := hidden (show (ca : Int) = x ∧ (cb : Int) = y ∧ ca + cb ≤ 524288 from ⟨hx, hy, hs⟩)
  have hxc : (ca : Int) = x := hx
  clear hx hy hca hcb hs
  have hxc := hidden hxc
  have hwf := hidden hwf
  have hwa := hidden hwa
  obtain ⟨aa, capa, rfl, qa1, qa2, qa3⟩ := Rd.shape hA
  obtain ⟨ad, cap, rfl, q1, q2, q3⟩ := Rd.shape h
  have PA : Blk (((w.alloc (.cells #[.slice aa A.length capa, .int .i64 x] 24)).alloc (.cells #[.slice ad D.length cap, .int .i64 y] 24)).alloc (.cells #[.slice none 0 0, .int .i64 0] 24)) w.heap.size 24 [.slice aa A.length capa, .int .i64 x] := ((Blk.new w [.slice aa A.length capa, .int .i64 x] _).alloc _).alloc _
  have PB : Blk (((w.alloc (.cells #[.slice aa A.length capa, .int .i64 x] 24)).alloc (.cells #[.slice ad D.length cap, .int .i64 y] 24)).alloc (.cells #[.slice none 0 0, .int .i64 0] 24)) (w.heap.size + 1) 24 [.slice ad D.length cap, .int .i64 y] := (Blk.newAt (w.alloc (.cells #[.slice aa A.length capa, .int .i64 x] 24)) [.slice ad D.length cap, .int .i64 y] 24 (w.heap.size + 1) (by simp)).alloc _
  have PZ : Blk (((w.alloc (.cells #[.slice aa A.length capa, .int .i64 x] 24)).alloc (.cells #[.slice ad D.length cap, .int .i64 y] 24)).alloc (.cells #[.slice none 0 0, .int .i64 0] 24)) (w.heap.size + 1 + 1) 24 [.slice none 0 0, .int .i64 0] := Blk.newAt ((w.alloc (.cells #[.slice aa A.length capa, .int .i64 x] 24)).alloc (.cells #[.slice ad D.length cap, .int .i64 y] 24)) [.slice none 0 0, .int .i64 0] 24 (w.heap.size + 1 + 1) (by simp)
  have E0 : Ext w (((w.alloc (.cells #[.slice aa A.length capa, .int .i64 x] 24)).alloc (.cells #[.slice ad D.length cap, .int .i64 y] 24)).alloc (.cells #[.slice none 0 0, .int .i64 0] 24)) := (((Ext.refl w).alloc _).alloc _).alloc _
  have p0 := PA.cell 0 _ rfl
  have p1 := PA.cell 1 _ rfl
  have p2 := PB.cell 0 _ rfl
  have p3 := PB.cell 1 _ rfl
  have PQ : Blk ((((w.alloc (.cells #[.slice aa A.length capa, .int .i64 x] 24)).alloc (.cells #[.slice ad D.length cap, .int .i64 y] 24)).alloc (.cells #[.slice none 0 0, .int .i64 0] 24)).alloc (.cells #[.slice aa A.length capa, .int .i64 x, .slice ad D.length cap, .int .i64 y] 24)) (w.heap.size + 1 + 1 + 1) 24 [.slice aa A.length capa, .int .i64 x, .slice ad D.length cap, .int .i64 y] := Blk.newAt (((w.alloc (.cells #[.slice aa A.length capa, .int .i64 x] 24)).alloc (.cells #[.slice ad D.length cap, .int .i64 y] 24)).alloc (.cells #[.slice none 0 0, .int .i64 0] 24)) [.slice aa A.length capa, .int .i64 x, .slice ad D.length cap, .int .i64 y] 24 (w.heap.size + 1 + 1 + 1) (by simp)
  refine (callsIn_wide (n := 6)).1 ?_
  refine callsIn_of_wp_marks Try.func18 rfl trivial ?_ rfl
  simp only [Try.ntmps18, List.size_toArray, List.length_cons, List.length_nil, Nat.reduceAdd, Nat.reduceSub, Array.replicate_succ, Array.replicate_zero, List.push_toArray, List.append_toArray, List.nil_append, List.cons_append]
  gi_wp2_with fail
  gi_loopw [16] (fun i wr => Hid (Ext w wr ∧ Blk wr w.heap.size 24 [.slice aa A.length capa, .int .i64 x] ∧ Blk wr (w.heap.size + 1) 24 [.slice ad D.length cap, .int .i64 y] ∧ Blk wr (w.heap.size + 1 + 1) 24 [.slice none 0 0, .int .i64 0] ∧ Blk wr (w.heap.size + 1 + 1 + 1) 24 [.slice aa A.length capa, .int .i64 x, .slice ad D.length cap, .int .i64 y]) ∧ (i = .int .i64 0 ∨ i = .int .i64 1 ∨ i = .int .i64 2)) (fun i _ => (2 - intOf i).toNat)
  case atStart => exact ⟨hidden ⟨E0.alloc _, PA.alloc _, PB.alloc _, PZ.alloc _, PQ⟩, Or.inl rfl⟩
  case round =>
    obtain ⟨hh, hrel⟩ := hrel
    obtain ⟨hE, hPA, hPB, hPZ, hQ⟩ := hh.out
    clear hh p0 p1 p2 p3
    rcases hrel with rfl | rfl | rfl
    · have c0 := hQ.cell 0 _ rfl
      have c1 := hQ.cell 1 _ rfl
      gi_wp2_with (refine ⟨trivial, ?_⟩; gi_at_call 22; refine (callsIn_wide.2 (check_any _ A x ha (by omega) (by omega) (by omega) _ (Rd.alloc (Rd.ext hA hE) _))).mono ?_; rw [Hka.out]; rintro e5 w5 ⟨rfl, g5⟩)
      have g6 := ((Ext.refl wr).alloc _).trans g5
      exact ⟨⟨hidden ⟨hE.trans g6, hPA.ext g6, hPB.ext g6, hPZ.ext g6, hQ.ext g6⟩, Or.inr (Or.inl rfl)⟩, by simp [intOf]⟩
    · have c0 := hQ.cell 2 _ rfl
      have c1 := hQ.cell 3 _ rfl
      gi_wp2_with (refine ⟨trivial, ?_⟩; gi_at_call 22; refine (callsIn_wide.2 (check_any _ D y hb (by omega) (by omega) (by omega) _ (Rd.alloc (Rd.ext h hE) _))).mono ?_; rw [Hkb.out]; rintro e5 w5 ⟨rfl, g5⟩)
      have g6 := ((Ext.refl wr).alloc _).trans g5
      exact ⟨⟨hidden ⟨hE.trans g6, hPA.ext g6, hPB.ext g6, hPZ.ext g6, hQ.ext g6⟩, Or.inr (Or.inr rfl)⟩, by simp [intOf]⟩
    · have a0 := hPA.cell 0 _ rfl
      have a1 := hPA.cell 1 _ rfl
      have b0 := hPB.cell 0 _ rfl
      have b1 := hPB.cell 1 _ rfl
      gi_wp2_with fail
      have hs1 : w.heap.size + 1 + 1 + 1 + 1 ≤ wr.heap.size := hQ.lt
      have RA := Rd.ext hA hE
      have n0 := World.new_ne wr _ a0
      have n1 := World.new_ne wr _ b0
      have Hcop : ∀ w', Rd8 w' (.slice aa A.length capa) A → Calls Try.prog 24 #[.agg #[.slice aa A.length capa, .int .i64 x]] w' fun e w'' => ∃ p v', e = .returned (.pointer (some ⟨p, 0, none⟩)) ∧ Tape w'' p w'.heap.size v' A ca ∧ w'.heap.size ≤ p ∧ Ext w' w'' := by
        intro w' hr
        have := copied_any _ A ca (by omega) hwa.out w' hr
        rw [hxc.out] at this
        exact this
      have Hcop := hidden Hcop
      have z1 : w.heap.size ≠ wr.heap.size + 1 := by omega
      have z2 : wr.heap.size + 1 ≠ w.heap.size := by omega
      have z3 : w.heap.size + 1 ≠ wr.heap.size := by omega
      have z4 : wr.heap.size ≠ w.heap.size + 1 := by omega
      have z5 : w.heap.size ≠ wr.heap.size := by omega
      have z6 : wr.heap.size ≠ w.heap.size := by omega
      have d0 := hPA.drew.cell 0 _ rfl
      have d1 := hPA.drew.cell 1 _ rfl
      have d2 := hPB.drew.cell 0 _ rfl
      have d3 := hPB.drew.cell 1 _ rfl
      have q0 : ∀ o, (wr.alloc o).cell? ⟨w.heap.size, 0, none⟩ = some (.slice aa A.length capa) := fun o => Ext.cell ((Ext.refl wr).alloc o) a0
      have q1 : ∀ o, (wr.alloc o).cell? ⟨w.heap.size, 1, none⟩ = some (.int .i64 x) := fun o => Ext.cell ((Ext.refl wr).alloc o) a1
      have q2 : ∀ o, (wr.alloc o).cell? ⟨w.heap.size + 1, 0, none⟩ = some (.slice ad D.length cap) := fun o => Ext.cell ((Ext.refl wr).alloc o) b0
      have q3 : ∀ o, (wr.alloc o).cell? ⟨w.heap.size + 1, 1, none⟩ = some (.int .i64 y) := fun o => Ext.cell ((Ext.refl wr).alloc o) b1
      have q4 : ∀ o o', ((wr.alloc o).alloc o').cell? ⟨w.heap.size, 0, none⟩ = some (.slice aa A.length capa) := fun o o' => Ext.cell (((Ext.refl wr).alloc o).alloc o') a0
      have q5 : ∀ o o', ((wr.alloc o).alloc o').cell? ⟨w.heap.size, 1, none⟩ = some (.int .i64 x) := fun o o' => Ext.cell (((Ext.refl wr).alloc o).alloc o') a1
      have q6 : ∀ o o', ((wr.alloc o).alloc o').cell? ⟨w.heap.size + 1, 0, none⟩ = some (.slice ad D.length cap) := fun o o' => Ext.cell (((Ext.refl wr).alloc o).alloc o') b0
      have q7 : ∀ o o', ((wr.alloc o).alloc o').cell? ⟨w.heap.size + 1, 1, none⟩ = some (.int .i64 y) := fun o o' => Ext.cell (((Ext.refl wr).alloc o).alloc o') b1
      gi_cut [9, 10] from 34 (fun s9 s10 wx => ∃ pt pu pv v0, s9 = .pointer (some ⟨pv, 0, none⟩) ∧ s10 = .pointer (some ⟨pu, 0, none⟩) ∧ Tape wx pt wr.heap.size v0 A ca ∧ Blk wx pu 61 [.slice ad D.length cap, .int .i64 y] ∧ Blk wx pv 57 [.pointer (some ⟨pt, 0, none⟩)] ∧ pt ≠ pu ∧ pt ≠ pv ∧ pu ≠ pv ∧ wr.heap.size ≤ pt ∧ wr.heap.size ≤ pu ∧ wr.heap.size ≤ pv ∧ Ext wr wx)
      case first =>
        rename_i J K hJ hK
        have HJ := hidden hJ
        have HK := hidden hK
        clear hJ hK
        refine wpIn_wide.2 ?_
        go_region_held3 (fun w' => w'.cell? ⟨w.heap.size, 0, none⟩ = some (.slice aa A.length capa) ∧ w'.cell? ⟨w.heap.size, 1, none⟩ = some (.int .i64 x) ∧ w'.cell? ⟨w.heap.size + 1, 0, none⟩ = some (.slice ad D.length cap) ∧ w'.cell? ⟨w.heap.size + 1, 1, none⟩ = some (.int .i64 y)) (go_keep)
          (first | (go_at_call 24; refine (Hcop.out _ (by first | exact Rd.drew RA | exact (Rd.alloc RA _).drew | exact (Rd.alloc (Rd.alloc RA _) _).drew | exact Rd.alloc (Rd.drew RA) _)).mono ?_; rintro e5 w5 ⟨pt, v5, rfl, T5, hp5, g5⟩; have EX : Ext wr w5 := Ext.trans (by first | exact (Ext.refl wr).drew | exact ((Ext.refl wr).alloc _).drew | exact (((Ext.refl wr).alloc _).alloc _).drew | exact ((Ext.refl wr).drew).alloc _) g5; have j0 : w5.cell? ⟨w.heap.size, 0, none⟩ = some (.slice aa A.length capa) := (hPA.ext EX).cell 0 _ rfl; have j1 : w5.cell? ⟨w.heap.size, 1, none⟩ = some (.int .i64 x) := (hPA.ext EX).cell 1 _ rfl; have j2 : w5.cell? ⟨w.heap.size + 1, 0, none⟩ = some (.slice ad D.length cap) := (hPB.ext EX).cell 0 _ rfl; have j3 : w5.cell? ⟨w.heap.size + 1, 1, none⟩ = some (.int .i64 y) := (hPB.ext EX).cell 1 _ rfl; have m0 := World.new_ne w5 _ j0; have m2 := World.new_ne w5 _ j2; (first | (have kb : Blk w5 wr.heap.size 57 [.pointer none] := ((Blk.newAt wr [.pointer none] 57 _ rfl).drew).ext g5; have kf := kb.frozen 0; have kc := kb.cell 0 _ rfl; have mk := World.new_ne w5 _ kc; have kf2 := fun o => (kb.alloc o).frozen 0; have kc2 := fun o => (kb.alloc o).cell 0 _ rfl) | (have kb : Blk w5 wr.heap.size 57 [.pointer none] := (((Blk.newAt wr [.pointer none] 57 _ rfl).alloc _).drew).ext g5; have kf := kb.frozen 0; have kc := kb.cell 0 _ rfl; have mk := World.new_ne w5 _ kc; have kf2 := fun o => (kb.alloc o).frozen 0; have kc2 := fun o => (kb.alloc o).cell 0 _ rfl) | (have kb : Blk w5 (wr.heap.size + 1) 57 [.pointer none] := ((Blk.newAt (wr.alloc _) [.pointer none] 57 _ (by simp)).drew).ext g5; have kf := kb.frozen 0; have kc := kb.cell 0 _ rfl; have mk := World.new_ne w5 _ kc; have kf2 := fun o => (kb.alloc o).frozen 0; have kc2 := fun o => (kb.alloc o).cell 0 _ rfl) | skip)))
        all_goals
          have lt5 := T5.blk.lt
          have hpp : wr.heap.size ≤ pt := by first | (have := hp5; simp at this; omega)
          have TB := tape_base (B' := wr.heap.size) T5 (by simp <;> omega)
          have hsz := g5.size
          simp at hsz
          have hp6 := hp5
          simp at hp6
          refine HK.out _ _ (Met.intro (HJ.out _ _ ?_))
          (repeat apply Exists.intro)
          refine ⟨?_, rfl⟩
          first
          | exact ⟨pt, w5.heap.size, _, v5, rfl, rfl, tape_alloc (tape_alloc TB _) _, (Blk.newAt w5 [.slice ad D.length cap, .int .i64 y] 61 _ rfl).alloc _, Blk.newAt (w5.alloc _) [.pointer (some ⟨pt, 0, none⟩)] 57 _ (by simp), by omega, by omega, by omega, by omega, by omega, by omega, (EX.alloc _).alloc _⟩
          | exact ⟨pt, _, w5.heap.size, v5, rfl, rfl, tape_alloc (tape_alloc TB _) _, Blk.newAt (w5.alloc _) [.slice ad D.length cap, .int .i64 y] 61 _ (by simp), (Blk.newAt w5 [.pointer (some ⟨pt, 0, none⟩)] 57 _ rfl).alloc _, by omega, by omega, by omega, by omega, by omega, by omega, (EX.alloc _).alloc _⟩
          | exact ⟨pt, wr.heap.size, w5.heap.size, v5, rfl, rfl, tape_alloc TB _, ((Blk.newAt wr [.slice ad D.length cap, .int .i64 y] 61 _ rfl).drew.ext g5).alloc _, Blk.newAt w5 [.pointer (some ⟨pt, 0, none⟩)] 57 _ rfl, by omega, by omega, by omega, by omega, by omega, by omega, EX.alloc _⟩
          | exact ⟨pt, w5.heap.size, wr.heap.size, v5, rfl, rfl, tape_alloc (tape_set TB kb (by omega) _) _, Blk.newAt _ [.slice ad D.length cap, .int .i64 y] 61 _ (by simp), (kb.set 0 (.pointer (some ⟨pt, 0, none⟩))).alloc _, by omega, by omega, by omega, by omega, by omega, by omega, (EX.setCell (p := ⟨wr.heap.size, 0, none⟩) (by simp) _).alloc _⟩
          | exact ⟨pt, w5.heap.size, wr.heap.size, v5, rfl, rfl, tape_set (tape_alloc TB _) (kb.alloc _) (by omega) _, (Blk.newAt w5 [.slice ad D.length cap, .int .i64 y] 61 _ rfl).set_other (by omega) _, (kb.alloc _).set 0 (.pointer (some ⟨pt, 0, none⟩)), by omega, by omega, by omega, by omega, by omega, by omega, (EX.alloc _).setCell (p := ⟨wr.heap.size, 0, none⟩) (by simp) _⟩
          | exact ⟨pt, wr.heap.size, (wr.heap.size + 1), v5, rfl, rfl, tape_set TB kb (by omega) _, (((Blk.newAt wr [.slice ad D.length cap, .int .i64 y] 61 _ rfl).alloc _).drew.ext g5).set_other (by omega) _, kb.set 0 (.pointer (some ⟨pt, 0, none⟩)), by omega, by omega, by omega, by omega, by omega, by omega, EX.setCell (p := ⟨wr.heap.size + 1, 0, none⟩) (by simp) _⟩
          | exact ⟨pt, (wr.heap.size + 1), wr.heap.size, v5, rfl, rfl, tape_set TB kb (by omega) _, ((Blk.newAt (wr.alloc _) [.slice ad D.length cap, .int .i64 y] 61 _ (by simp)).drew.ext g5).set_other (by omega) _, kb.set 0 (.pointer (some ⟨pt, 0, none⟩)), by omega, by omega, by omega, by omega, by omega, by omega, EX.setCell (p := ⟨wr.heap.size, 0, none⟩) (by simp) _⟩
      case rest =>
        clear q0 q1 q2 q3 q4 q5 q6 q7 d0 d1 d2 d3 a0 a1 n0 n1 z1 z2 z3 z4 z5 z6
        obtain ⟨pt, pu, pv, v0, rfl, rfl, bt, bu, bv, t1, t2, t3, t4, t5, t6, hEc⟩ := hcut
        have hls := hEc.size
        have b2 := (hPB.ext hEc).cell 0 _ rfl
        have b3 := (hPB.ext hEc).cell 1 _ rfl
        gi_wp2_with (refine ⟨trivial, ?_⟩; gi_at_call 28; refine (callsIn_wide.2 (places_in _ _ _ _)).mono ?_; rintro e w2 ⟨rfl, rfl⟩)
        have hEW0 := hE.trans hEc
        have d0 := ((Blk.newAt wc [.pointer (some ⟨pu, 0, none⟩)] 57 wc.heap.size rfl).alloc (.cells #[.int .i64 0] 3)).alloc (.cells #[.int .i64 y] 3)
        have d1 := (Blk.newAt (wc.alloc (.cells #[.pointer (some ⟨pu, 0, none⟩)] 57)) [.int .i64 0] 3 (wc.heap.size + 1) (by simp)).alloc (.cells #[.int .i64 y] 3)
        have d2 := Blk.newAt ((wc.alloc (.cells #[.pointer (some ⟨pu, 0, none⟩)] 57)).alloc (.cells #[.int .i64 0] 3)) [.int .i64 y] 3 (wc.heap.size + 2) (by simp)
        have hR2 : Rd8 (((wc.alloc (.cells #[.pointer (some ⟨pu, 0, none⟩)] 57)).alloc (.cells #[.int .i64 0] 3)).alloc (.cells #[.int .i64 y] 3)) (.slice ad D.length cap) D := Rd.alloc (Rd.alloc (Rd.alloc (Rd.ext h hEW0) _) _) _
        have hEW : Ext w (((wc.alloc (.cells #[.pointer (some ⟨pu, 0, none⟩)] 57)).alloc (.cells #[.int .i64 0] 3)).alloc (.cells #[.int .i64 y] 3)) := ((hEW0.alloc _).alloc _).alloc _
        have lt := bt.blk.lt
        have lu := bu.lt
        have lv := bv.lt
        have bt2 := tape_alloc (tape_alloc (tape_alloc bt (.cells #[.pointer (some ⟨pu, 0, none⟩)] 57)) (.cells #[.int .i64 0] 3)) (.cells #[.int .i64 y] 3)
        have bu2 := (((bu).alloc (.cells #[.pointer (some ⟨pu, 0, none⟩)] 57)).alloc (.cells #[.int .i64 0] 3)).alloc (.cells #[.int .i64 y] 3)
        have bv2 := (((bv).alloc (.cells #[.pointer (some ⟨pu, 0, none⟩)] 57)).alloc (.cells #[.int .i64 0] 3)).alloc (.cells #[.int .i64 y] 3)
        have bz2 := (((hPZ.ext hEc).alloc (.cells #[.pointer (some ⟨pu, 0, none⟩)] 57)).alloc (.cells #[.int .i64 0] 3)).alloc (.cells #[.int .i64 y] 3)
        obtain ⟨W2, hW2⟩ : ∃ W, (((wc.alloc (.cells #[.pointer (some ⟨pu, 0, none⟩)] 57)).alloc (.cells #[.int .i64 0] 3)).alloc (.cells #[.int .i64 y] 3)) = W := ⟨_, rfl⟩
        have hsz2 : W2.heap.size = wc.heap.size + 3 := by rw [← hW2]; simp
        rw [hW2] at bt2 bu2 bv2 bz2 d0 d1 d2 hR2 hEW
        rw [hW2]
        clear hW2 b0 b1 b2 b3 bt bu bv
        have d1' : Blk W2 (wc.heap.size + 1) 3 [.int .i64 ((0 : Nat) : Int)] := d1
        have d2' : Blk W2 (wc.heap.size + 2) 3 [.int .i64 (cb : Int)] := by rw [Hn.out.2.1]; exact d2
        have hlt : ∀ z ∈ ([pu, wc.heap.size, wc.heap.size + 1, wc.heap.size + 2] ++ dataS (.slice ad D.length cap) D.length), z < W2.heap.size := by
          intro z hz
          rcases List.mem_append.1 hz with hz | hz
          · simp at hz; omega
          · exact dataS_lt hR2 z hz
        have hnd : ∀ z ∈ ([pu, wc.heap.size, wc.heap.size + 1, wc.heap.size + 2] ++ dataS (.slice ad D.length cap) D.length), z ≠ pt := by
          intro z hz
          rcases List.mem_append.1 hz with hz | hz
          · simp at hz; omega
          · have := dataS_lt h z hz
            omega
        have hnv : ∀ z ∈ ([pu, wc.heap.size, wc.heap.size + 1, wc.heap.size + 2] ++ dataS (.slice ad D.length cap) D.length), v0.ownBlock ≠ some z := by
          intro z hz
          rcases List.mem_append.1 hz with hz | hz
          · simp at hz
            rcases hz with rfl | rfl | rfl | rfl
            · exact own_ne_blk bt2.own bu2 (by decide)
            · exact own_ne_blk bt2.own d0 (by decide)
            · exact own_ne_blk bt2.own d1 (by decide)
            · exact own_ne_blk bt2.own d2 (by decide)
          · intro e
            have h1 := dataS_lt h z hz
            have h2 := (own_lt bt2.own e).1
            omega
        have hnp := own_ne_blk bt2.own bv2 (by decide)
        have hnz := own_ne_blk bt2.own bz2 (by decide)
        have hnp := hidden hnp
        have hnz := hidden hnz
        have hpt : pt < W2.heap.size := by omega
        have hpv : pv < W2.heap.size := by omega
        have hpz : w.heap.size + 1 + 1 < W2.heap.size := by omega
        have hpw : w.heap.size ≤ W2.heap.size := by omega
        have hpr : wr.heap.size ≤ W2.heap.size := by omega
        have hwr : w.heap.size ≤ wr.heap.size := by omega
        have hpz1 : w.heap.size + 1 + 1 ≠ pt := by omega
        have hpz2 : w.heap.size + 1 + 1 ≠ pv := by omega
        have hpt0 : w.heap.size ≤ pt := by omega
        have hsz2 := hidden hsz2
        refine wpIn_rangeFunc_ownG rfl (by omega) (gf := 37) (lb := #[.pointer (some ⟨wc.heap.size + 1, 0, none⟩), .pointer (some ⟨wc.heap.size + 2, 0, none⟩), .pointer (some ⟨wc.heap.size, 0, none⟩)]) rfl trivial (enters_of Try.func37 (by kernel_rfl) rfl)
          (places_stops 5 (by omega) wc.heap.size (wc.heap.size + 1) (wc.heap.size + 2) pu 0 cb (.slice ad D.length cap) (.int .i64 y) D hb hy8.out (by omega) ([pu, wc.heap.size, wc.heap.size + 1, wc.heap.size + 2] ++ dataS (.slice ad D.length cap) D.length) (by simp) (by simp) (by simp) (by simp) (fun hn g hg => by simp [dataS, hn, hg]) W2 hlt d0 d1' d2' bu2 hR2) keepz_t (keepz_b hlt) (Below.refl _ _) (fun _ => rfl)
          (fun pre W => (∃ v', Tape W pt wr.heap.size v' (pshs A ca (pre.map b2i)) (ca + pre.length) ∧ Stays W2 v0 v') ∧ (Blk W pv 57 [.pointer (some ⟨pt, 0, none⟩)] ∧ Blk W (w.heap.size + 1 + 1) 24 [.slice none 0 0, .int .i64 0]) ∧ Below w.heap.size w W ∧ W2.heap.size ≤ W.heap.size)
          (fun _ _ _ => False)
          (OwnFrom.and (Own.from (tape_own2 _ _ _ _ _ _) _) (OwnFrom.and (OwnFrom.and (Own.from (blk_own _ _ _) _) (Own.from (blk_own _ _ _) _)) (OwnFrom.and (ownFrom_below (Nat.le_refl _) hpw) (Own.from (size_own _) _))))
          (fun _ _ _ _ _ hs _ _ => hs)
          ⟨⟨_, bt2, Stays.refl _ _⟩, ⟨bv2, bz2⟩, hEW, Nat.le_refl _⟩
          (fun x' => { tmps := #[Value.agg #[Value.slice aa A.length capa, Value.int IntKind.i64 x], Value.agg #[Value.slice ad D.length cap, Value.int IntKind.i64 y], Value.pointer (some { block := w.heap.size, off := 0 }), Value.pointer (some { block := w.heap.size + 1, off := 0 }), Value.pointer (some { block := w.heap.size + 1 + 1, off := 0 }), u5, undef, u7, u8, Value.pointer (some { block := pv, off := 0 }), Value.pointer (some { block := pu, off := 0 }), Value.bool x', Value.agg #[Value.slice aa A.length capa, Value.int IntKind.i64 x], Value.agg #[Value.slice ad D.length cap, Value.int IntKind.i64 y], Value.slice (some { block := w.heap.size + 1 + 1 + 1, off := 0 }) 2 2, Value.int IntKind.i64 2, Value.int IntKind.i64 2, Value.bool false, u18, u19, u20, u21, u22, u23, u24, u25, u26, Value.pointer (some { block := w.heap.size, off := 1 }), Value.int IntKind.i64 x, Value.pointer (some { block := w.heap.size + 1, off := 1 }), Value.int IntKind.i64 y, Value.int IntKind.i64 (x + y), Value.bool false, undef, u34, u35, u36, u37, u38, Value.pointer (some { block := pu, off := 0 }), Value.pointer (some { block := w.heap.size + 1, off := 1 }), Value.int IntKind.i64 y, Value.func (Fn.func 37) #[] #[.pointer (some ⟨wc.heap.size + 1, 0, none⟩), .pointer (some ⟨wc.heap.size + 2, 0, none⟩), .pointer (some ⟨wc.heap.size, 0, none⟩)], Value.bool x', u44, u45, u46, u47, u48, u49, u50], defers := [] }) ?assign ?body ?done ?stop
        case assign =>
          intro l x W K hK
          gi_wp2
          exact hK
        case body =>
          rintro l pre x0 W ⟨⟨v', hT, hSt⟩, ⟨hV, hZ⟩, hB, hs2⟩ hlen
          have cv := hV.cell 0 _ rfl
          have hsn : pshs A ca ((pre ++ [x0]).map b2i) = psh (pshs A ca (pre.map b2i)) (ca + pre.length) (b2i x0) := by rw [List.map_append, List.map_singleton, pshs_snoc, List.length_map]
          have hsn := hidden hsn
          have hlen' : ca + pre.length ≤ 600000 := by have := Hn.out; have := hy8.out; omega
          have hT' := hidden hT
          have hV' := hidden hV
          have hZ' := hidden hZ
          have hB' := hidden hB
          have hSt' := hidden hSt
          clear hT hV hZ hB hSt
          gi_wp2_with (refine ⟨trivial, ?_⟩; gi_at_call 31; refine (CallsIn.inRound l (callsIn_wide.2 (push_any pt wr.heap.size (ca + pre.length) v' _ x0 hlen' W (Nat.le_trans hpr hs2) hT'.out))).mono ?_; rintro e w3 ⟨rfl, v3, hT3, hS3, hC3⟩)
          have hp : ∀ z, z < W2.heap.size → z ≠ pt → v0.ownBlock ≠ some z → z ∉ (pt :: v'.ownBlock.toList) := by
            intro z hz1 hz2 hz3 hz4
            rcases List.mem_cons.1 hz4 with h1 | h1
            · exact hz2 h1
            · rcases hSt'.out z (Option.mem_toList.1 h1) with h2 | h2
              · exact hz3 h2
              · omega
          refine ⟨(hC3.keeps hT'.out.cells).from _, ⟨KeepS.chg hC3 (fun z hz => ⟨Nat.lt_of_lt_of_le (hlt z hz) hs2, hp z (hlt z hz) (hnd z hz) (hnv z hz)⟩), hC3.size⟩, ⟨v3, ?_, Stays.trans hSt'.out hS3 hs2⟩, ⟨hV'.out.chg hC3 (hp _ hpv (by omega) hnp.out), hZ'.out.chg hC3 (hp _ hpz hpz1 hnz.out)⟩, ?_, Nat.le_trans hs2 hC3.size⟩
          · rw [hsn.out, List.length_append]; exact hT3
          · refine Below.trans hB'.out (Chg.below hC3 (fun z hz => ?_) (Nat.le_trans hpw hs2))
            rcases List.mem_cons.1 hz with h1 | h1
            · omega
            · have := (own_lt hT'.out.own (Option.mem_toList.1 h1)).1
              omega
        case done =>
          rintro E ys W hD rfl ⟨⟨v', hT, hSt⟩, ⟨hV, hZ⟩, hB, hs2⟩ hK
          rw [bo_cut, bo_len, Nat.sub_zero, HX.out, Hm.out] at hT
          have hfr : Fresh w v' := Fresh.of_own hT.own hwr
          have hfr2 : v'.ownBlock ≠ some (w.heap.size + 1 + 1) := own_ne_blk hT.own hZ (by decide)
          have hfr2 := hidden hfr2
          have hown := hT.own
          obtain ⟨x1, x2, rfl, x3, x4, x5⟩ := Rd.shape hT.own.rd
          have ct0 := hT.blk.cell 0 _ rfl
          have ct1 := hT.blk.cell 1 _ rfl
          have cv := hV.cell 0 _ rfl
          have cz0 := hZ.cell 0 _ rfl
          have cz1 := hZ.cell 1 _ rfl
          have fz0 := hZ.frozen 0
          have fz1 := hZ.frozen 1
          have hEne : E ≠ w.heap.size + 1 + 1 := by omega
          have HT := hidden hT
          have HZ := hidden hZ
          have HB := hidden hB
          have HK := hidden hK
          have hown := hidden hown
          have hfr := hidden hfr
          clear hT hZ hB hK hV hSt
          gi_wp2
          have hZ3 := (HZ.out.set 0 (.slice x1 X.length x2)).set 1 (.int .i64 (m : Int))
          have hB3 := (HB.out.setCell (p := ⟨w.heap.size + 1 + 1, 0, none⟩) (show w.heap.size ≤ w.heap.size + 1 + 1 by omega) (.slice x1 X.length x2)).setCell (p := ⟨w.heap.size + 1 + 1, 1, none⟩) (show w.heap.size ≤ w.heap.size + 1 + 1 by omega) (.int .i64 (m : Int))
          have hK3 := (Below.heap_setCell (W.setCell ⟨w.heap.size + 1 + 1, 0, none⟩ (.slice x1 X.length x2)) ⟨w.heap.size + 1 + 1, 1, none⟩ (.int .i64 (m : Int)) E hEne).trans ((Below.heap_setCell W ⟨w.heap.size + 1 + 1, 0, none⟩ (.slice x1 X.length x2) E hEne).trans HK.out)
          have hO3 := ownsRow_setCell_other (ownsRow_setCell_other hown.out (a := ⟨w.heap.size + 1 + 1, 0, none⟩) (hfr2.out) (.slice x1 X.length x2)) (a := ⟨w.heap.size + 1 + 1, 1, none⟩) (hfr2.out) (.int .i64 (m : Int))
          have hO5 := ownsRow_putObj hO3 (.deferred none) hK3 rfl
          have hB5 := Below.trans hB3 (belowK_b (n₀ := w.heap.size) (w := w) (Nat.le_refl _) _ E _ (.deferred none) (by omega) hK3 rfl rfl)
          have hZ5 := (World.putObj_heap_other (w := (W.setCell ⟨w.heap.size + 1 + 1, 0, none⟩ (.slice x1 X.length x2)).setCell ⟨w.heap.size + 1 + 1, 1, none⟩ (.int .i64 (m : Int))) (o := .deferred none) (Ne.symm hEne)).trans hZ3
          refine ⟨by simp, .inl ⟨_, _, rfl, run_takeDeferred hK3, ?_⟩⟩
          have hfr := hfr.out
          have hE5 : Ext w _ := hB5
          clear hB5 hO3 hB3 hZ3 hK3 ct0 ct1 cv cz0 cz1 fz0 fz1
          revert hE5 hO5 hZ5
          generalize World.putObj _ E _ = W5
          intro hO5 hZ5 hE5
          have cz0 := Blk.cell (hZ5 : Blk W5 _ _ [.slice x1 X.length x2, .int .i64 (m : Int)]) 0 _ rfl
          have cz1 := Blk.cell (hZ5 : Blk W5 _ _ [.slice x1 X.length x2, .int .i64 (m : Int)]) 1 _ rfl
          exact ⟨.tuple #[.agg #[.slice x1 X.length x2, .int .i64 (m : Int)], .int .i64 0], by simp [results, Try.f18, go_sem, cz0, cz1], x1, x2, rfl, Own8.rd hO5, hfr, hE5⟩
        case stop =>
          rintro D c pre W _ _ h _
          exact h.elim

end Go.Proofs.Ytfnlekehcaehkaa
