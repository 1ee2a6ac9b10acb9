/- The program's Slice. -/
import Derived.Test.YtfnlekehcaehkaaBl
import Derived.Sort.CutIn
namespace Go.Proofs.Ytfnlekehcaehkaa
open Go.RowKit Go.Shelf
set_option linter.unusedVariables false
attribute [local go_sem] Oper.semAt_some

/-- What Slice leaves. -/
def slcF (D : List Int) (c a b : Int) : Int × List Int × Nat :=
  if chkb D c ≠ 0 then (chkb D c, [], 0) else if a < 0 ∨ b < a ∨ c < b then (2, [], 0) else (0, pshs [] 0 (cut D a.toNat (b.toNat - a.toNat)), b.toNat - a.toNat)
theorem own8_grown {W W' : World} {B : Nat} {v : Value} {l : List Int} {row : Option Nat} (h : Own8 W B v l) (hg : W.grownBy W' row) (hrow : ∀ r, row = some r → ∃ o, W.heap[r]? = some o ∧ o.isCells = false) : Own8 W' B v l := by
  obtain ⟨h1, h | ⟨g, cap, cur, h2, h3, h4, h5⟩⟩ := h
  · exact ⟨h1, .inl h⟩
  · refine ⟨h1, .inr ⟨g, cap, cur, h2, h3, ?_, h5⟩⟩
    rw [hg.block g (Array.getElem?_eq_some_iff.1 h4).1 (fun e' => by obtain ⟨o, ho, hc⟩ := hrow g e'.symm; rw [h4] at ho; cases ho; cases hc)]
    exact h4
theorem tape_own (pt B : Nat) (D : List Int) (c : Nat) : Own (fun (s : List Bool) W => ∃ v', Tape W pt B v' (pshs D c (s.map b2i)) (c + s.length)) := fun s X Y row hs hg hrow => by
  obtain ⟨v', h1, h2, h3⟩ := hs
  exact ⟨v', blk_own (β := Unit) _ _ _ () X Y row h1 hg hrow, own8_grown h2 hg hrow, h3⟩
theorem size_own {β : Type} (n : Nat) : Own (fun (_ : β) W => n ≤ W.heap.size) := fun s X Y row hs hg hrow => Nat.le_trans hs hg.size
theorem Chg.keeps {S : List Nat} {W W' : World} (h : Chg S W W') (hS : ∀ x ∈ S, ∀ o, W.heap[x]? = some o → o.isCells = true) : KeepsOthers W W' :=
  ⟨h.size, fun k o hk ho => by
    by_cases hm : k ∈ S
    · have := hS k hm o hk
      rw [this] at ho; cases ho
    · rw [h.block k (Array.getElem?_eq_some_iff.1 hk).1 hm]; exact hk⟩
theorem Tape.cells {W : World} {p B c : Nat} {v : Value} {D : List Int} (h : Tape W p B v D c) : ∀ x ∈ (p :: v.ownBlock.toList), ∀ o, W.heap[x]? = some o → o.isCells = true := by
  intro x hx o ho
  rcases List.mem_cons.1 hx with rfl | hx
  · have hb : W.heap[x]? = some (.cells _ _ (0, 0)) := h.blk
    rw [hb] at ho; cases ho; rfl
  · obtain ⟨h1, ⟨rfl, -⟩ | ⟨g, cap, cur, rfl, h3, h4, h5⟩⟩ := h.own
    · simp [Value.ownBlock] at hx
    · simp [Value.ownBlock] at hx
      subst hx
      rw [h4] at ho; cases ho; rfl
theorem Tape.past {W : World} {p B c : Nat} {v : Value} {D : List Int} (h : Tape W p B v D c) : ∀ x, x < B → x ≠ p → x ∉ (p :: v.ownBlock.toList) := by
  intro x hB hp hx
  rcases List.mem_cons.1 hx with rfl | hx
  · exact hp rfl
  · obtain ⟨h1, ⟨rfl, -⟩ | ⟨g, cap, cur, rfl, h3, h4, h5⟩⟩ := h.own
    · simp [Value.ownBlock] at hx
    · simp [Value.ownBlock] at hx
      omega
theorem own8_nil (W : World) (B : Nat) : Own8 W B (.slice none 0 0) [] := ⟨rfl, .inl ⟨rfl, rfl⟩⟩
theorem Chg.below {S : List Nat} {n : Nat} {W W' : World} (h : Chg S W W') (hS : ∀ x ∈ S, n ≤ x) (hn : n ≤ W.heap.size) : Below n W W' := by
  refine ⟨h.os, h.tape, h.output, h.size, fun k hk => h.block k (by omega) (fun hm => by have := hS k hm; omega)⟩
theorem blk_calc {W : World} {p : Nat} {t : TypeId} {cs : List Value} (h : W.heap[p]? = some (.cells cs.toArray t (0, 0))) : Blk W p t cs := h

set_option maxRecDepth 100000 in
set_option maxHeartbeats 2000000 in
theorem slice_good (v : Value) (D : List Int) (c a b : Nat) (hb : Bytes D) (hwf : WF D c) (hc : c ≤ 524288) (hab : a ≤ b) (hbc : b ≤ c) (w : World) (h : Rd8 w v D) :
    Calls Try.prog 15 #[.agg #[v, .int .i64 (c : Int)], .int .i64 (a : Int), .int .i64 (b : Int)] w (BitsPost w (0, pshs [] 0 (cut D a (b - a)), b - a)) := by
  have hk := hidden (wf_chkb hwf hc)
  have hlen := hwf.len
  have hl : D.length ≤ 65536 := by omega
  have hy8 : b ≤ 8 * D.length := by omega
  obtain ⟨ad, cap, rfl, q1, q2, q3⟩ := Rd.shape h
  have k5 : decide ((a : Int) < 0) = false := by simp
  have k6 : decide ((b : Int) < (a : Int)) = false := by simp; omega
  have k7 : decide ((c : Int) < (b : Int)) = false := by simp; omega
  have k1 : ¬ (a : Int) < 0 := by omega
  have k2 : ¬ (b : Int) < (a : Int) := by omega
  have k3 : ¬ (c : Int) < (b : Int) := by omega
  have W0B : Blk ((w.alloc (.cells #[.slice ad D.length cap, .int .i64 (c : Int)] 24)).alloc (.cells #[.slice none 0 0, .int .i64 0] 24)) w.heap.size 24 [.slice ad D.length cap, .int .i64 (c : Int)] := (Blk.new w [.slice ad D.length cap, .int .i64 (c : Int)] _).alloc _
  have W0Z : Blk ((w.alloc (.cells #[.slice ad D.length cap, .int .i64 (c : Int)] 24)).alloc (.cells #[.slice none 0 0, .int .i64 0] 24)) (w.heap.size + 1) 24 [.slice none 0 0, .int .i64 0] := Blk.newAt (w.alloc (.cells #[.slice ad D.length cap, .int .i64 (c : Int)] 24)) [.slice none 0 0, .int .i64 0] 24 (w.heap.size + 1) (by simp)
  have W0R : Rd8 ((w.alloc (.cells #[.slice ad D.length cap, .int .i64 (c : Int)] 24)).alloc (.cells #[.slice none 0 0, .int .i64 0] 24)) (.slice ad D.length cap) D := Rd.alloc (Rd.alloc h _) _
  have W0E : Ext w ((w.alloc (.cells #[.slice ad D.length cap, .int .i64 (c : Int)] 24)).alloc (.cells #[.slice none 0 0, .int .i64 0] 24)) := ((Ext.refl w).alloc _).alloc _
  have p0 := W0B.cell 0 _ rfl
  have p1 := W0B.cell 1 _ rfl
  clear hlen
  refine (callsIn_wide (n := 6)).1 ?_
  refine callsIn_of_wp_marks Try.func15 rfl trivial ?_ rfl
  simp only [Try.ntmps15, List.size_toArray, List.length_cons, List.length_nil, Nat.reduceAdd, Nat.reduceSub, Array.replicate_succ, Array.replicate_zero, List.push_toArray, List.append_toArray, List.nil_append, List.cons_append]
  gi_upto_region 6 with (refine ⟨trivial, ?_⟩; gi_at_call 22; refine (callsIn_wide.2 (check_any _ D (c : Int) hb (by omega) (by omega) (by omega) _ W0R)).mono ?_; rw [hk.out]; rintro e w1 ⟨rfl, g1⟩; have pb0 := (W0B.ext g1).cell 0 _ rfl; have pb1 := (W0B.ext g1).cell 1 _ rfl)
  have n0 := World.new_ne w1 _ pb0
  have n1 := World.new_ne w1 _ pb1
  have hs1 := g1.size
  simp at hs1
  have hq0 : ∀ o, (w1.alloc o).cell? ⟨w.heap.size, 0, none⟩ = some (.slice ad D.length cap) := fun o => Ext.cell ((Ext.refl w1).alloc o) pb0
  have hq1 : ∀ o, (w1.alloc o).cell? ⟨w.heap.size, 1, none⟩ = some (.int .i64 (c : Int)) := fun o => Ext.cell ((Ext.refl w1).alloc o) pb1
  have hq2 : ∀ o o', ((w1.alloc o).alloc o').cell? ⟨w.heap.size, 0, none⟩ = some (.slice ad D.length cap) := fun o o' => Ext.cell (((Ext.refl w1).alloc o).alloc o') pb0
  have hq3 : ∀ o o', ((w1.alloc o).alloc o').cell? ⟨w.heap.size, 1, none⟩ = some (.int .i64 (c : Int)) := fun o o' => Ext.cell (((Ext.refl w1).alloc o).alloc o') pb1
  have hq4 : w1.heap.size + 1 ≠ w.heap.size := by omega
  have hq5 : w.heap.size ≠ w1.heap.size + 1 := by omega
  have hq6 : w.heap.size ≠ w1.heap.size := by omega
  gi_cut [9, 10] from 32 (fun s9 s10 wx => ∃ pt pu pv, s9 = .pointer (some ⟨pv, 0, none⟩) ∧ s10 = .pointer (some ⟨pu, 0, none⟩) ∧ Blk wx pt 61 [.slice none 0 0, .int .i64 0] ∧ Blk wx pu 61 [.slice ad D.length cap, .int .i64 (c : Int)] ∧ Blk wx pv 57 [.pointer (some ⟨pt, 0, none⟩)] ∧ pt ≠ pu ∧ pt ≠ pv ∧ pu ≠ pv ∧ w1.heap.size ≤ pt ∧ w1.heap.size ≤ pu ∧ w1.heap.size ≤ pv ∧ Ext w1 wx)
  case first =>
    rename_i J K hJ hK
    have HJ := hidden hJ
    have HK := hidden hK
    clear hJ hK
    gi_region
    all_goals
      refine HK.out _ _ (Met.intro (HJ.out _ _ ?_))
      (repeat apply Exists.intro)
      refine ⟨?_, rfl⟩
      first
      | exact ⟨w1.heap.size, _, _, rfl, rfl, (by first | exact (Blk.newAt _ _ _ _ (by simp)).drew | exact ((Blk.newAt _ _ _ _ (by simp)).alloc _).drew | exact (((Blk.newAt _ _ _ _ (by simp)).alloc _).alloc _).drew), (by first | exact (Blk.newAt _ _ _ _ (by simp)).drew | exact ((Blk.newAt _ _ _ _ (by simp)).alloc _).drew | exact (((Blk.newAt _ _ _ _ (by simp)).alloc _).alloc _).drew), (by first | exact (Blk.newAt _ _ _ _ (by simp)).drew | exact ((Blk.newAt _ _ _ _ (by simp)).alloc _).drew | exact (((Blk.newAt _ _ _ _ (by simp)).alloc _).alloc _).drew), by omega, by omega, by omega, by omega, by omega, by omega, (by exact ((((Ext.refl _).alloc _).alloc _).alloc _).drew)⟩
      | exact ⟨w1.heap.size + 1, _, _, rfl, rfl, (by first | exact (Blk.newAt _ _ _ _ (by simp)).drew | exact ((Blk.newAt _ _ _ _ (by simp)).alloc _).drew | exact (((Blk.newAt _ _ _ _ (by simp)).alloc _).alloc _).drew), (by first | exact (Blk.newAt _ _ _ _ (by simp)).drew | exact ((Blk.newAt _ _ _ _ (by simp)).alloc _).drew | exact (((Blk.newAt _ _ _ _ (by simp)).alloc _).alloc _).drew), (by first | exact (Blk.newAt _ _ _ _ (by simp)).drew | exact ((Blk.newAt _ _ _ _ (by simp)).alloc _).drew | exact (((Blk.newAt _ _ _ _ (by simp)).alloc _).alloc _).drew), by omega, by omega, by omega, by omega, by omega, by omega, (by exact ((((Ext.refl _).alloc _).alloc _).alloc _).drew)⟩
      | exact ⟨w1.heap.size + 1 + 1, _, _, rfl, rfl, (by first | exact (Blk.newAt _ _ _ _ (by simp)).drew | exact ((Blk.newAt _ _ _ _ (by simp)).alloc _).drew | exact (((Blk.newAt _ _ _ _ (by simp)).alloc _).alloc _).drew), (by first | exact (Blk.newAt _ _ _ _ (by simp)).drew | exact ((Blk.newAt _ _ _ _ (by simp)).alloc _).drew | exact (((Blk.newAt _ _ _ _ (by simp)).alloc _).alloc _).drew), (by first | exact (Blk.newAt _ _ _ _ (by simp)).drew | exact ((Blk.newAt _ _ _ _ (by simp)).alloc _).drew | exact (((Blk.newAt _ _ _ _ (by simp)).alloc _).alloc _).drew), by omega, by omega, by omega, by omega, by omega, by omega, (by exact ((((Ext.refl _).alloc _).alloc _).alloc _).drew)⟩
      | trace_state
  case rest =>
    clear hq0 hq1 hq2 hq3 hq4 hq5 hq6 n0 n1
    obtain ⟨pt, pu, pv, rfl, rfl, bt, bu, bv, t1, t2, t3, t4, t5, t6, hE⟩ := hcut
    have hls := hE.size
    gi_wp2_with (refine ⟨trivial, ?_⟩; gi_at_call 28; refine (callsIn_wide.2 (places_in _ _ _ _)).mono ?_; rintro e w2 ⟨rfl, rfl⟩)
    have hs1 := g1.size
    simp at hs1
    have b0 := ((Blk.newAt wc [.pointer (some ⟨pu, 0, none⟩)] 57 wc.heap.size rfl).alloc (.cells #[.int .i64 (a : Int)] 3)).alloc (.cells #[.int .i64 (b : Int)] 3)
    have b1 := (Blk.newAt (wc.alloc (.cells #[.pointer (some ⟨pu, 0, none⟩)] 57)) [.int .i64 (a : Int)] 3 (wc.heap.size + 1) (by simp)).alloc (.cells #[.int .i64 (b : Int)] 3)
    have b2 := Blk.newAt ((wc.alloc (.cells #[.pointer (some ⟨pu, 0, none⟩)] 57)).alloc (.cells #[.int .i64 (a : Int)] 3)) [.int .i64 (b : Int)] 3 (wc.heap.size + 2) (by simp)
    have hEc : Ext w wc := (W0E.trans g1).trans hE
    have hR2 : Rd8 (((wc.alloc (.cells #[.pointer (some ⟨pu, 0, none⟩)] 57)).alloc (.cells #[.int .i64 (a : Int)] 3)).alloc (.cells #[.int .i64 (b : Int)] 3)) (.slice ad D.length cap) D := Rd.alloc (Rd.alloc (Rd.alloc (Rd.ext h hEc) _) _) _
    have hEW : Ext w (((wc.alloc (.cells #[.pointer (some ⟨pu, 0, none⟩)] 57)).alloc (.cells #[.int .i64 (a : Int)] 3)).alloc (.cells #[.int .i64 (b : Int)] 3)) := ((hEc.alloc _).alloc _).alloc _
    have lt := bt.lt
    have lu := bu.lt
    have lv := bv.lt
    have bt2 := ((bt.alloc (.cells #[.pointer (some ⟨pu, 0, none⟩)] 57)).alloc (.cells #[.int .i64 (a : Int)] 3)).alloc (.cells #[.int .i64 (b : Int)] 3)
    have bu2 := ((bu.alloc (.cells #[.pointer (some ⟨pu, 0, none⟩)] 57)).alloc (.cells #[.int .i64 (a : Int)] 3)).alloc (.cells #[.int .i64 (b : Int)] 3)
    have bv2 := ((bv.alloc (.cells #[.pointer (some ⟨pu, 0, none⟩)] 57)).alloc (.cells #[.int .i64 (a : Int)] 3)).alloc (.cells #[.int .i64 (b : Int)] 3)
    have bz2 := (((W0Z.ext (g1.trans hE)).alloc (.cells #[.pointer (some ⟨pu, 0, none⟩)] 57)).alloc (.cells #[.int .i64 (a : Int)] 3)).alloc (.cells #[.int .i64 (b : Int)] 3)
    obtain ⟨W2, hW2⟩ : ∃ W, (((wc.alloc (.cells #[.pointer (some ⟨pu, 0, none⟩)] 57)).alloc (.cells #[.int .i64 (a : Int)] 3)).alloc (.cells #[.int .i64 (b : Int)] 3)) = W := ⟨_, rfl⟩
    have hsz2 : W2.heap.size = wc.heap.size + 3 := by rw [← hW2]; simp
    rw [hW2] at bt2 bu2 bv2 bz2 b0 b1 b2 hR2 hEW
    rw [hW2]
    clear hW2 pb0 pb1 p0 p1 W0B W0R bt bu bv W0Z
    have hlt : ∀ z ∈ ([pu, wc.heap.size, wc.heap.size + 1, wc.heap.size + 2] ++ dataS (.slice ad D.length cap) D.length), z < W2.heap.size := by
      intro z hz
      rcases List.mem_append.1 hz with hz | hz
      · simp at hz; omega
      · exact dataS_lt hR2 z hz
    have hnd : ∀ z ∈ ([pu, wc.heap.size, wc.heap.size + 1, wc.heap.size + 2] ++ dataS (.slice ad D.length cap) D.length), z ≠ pt := by
      intro z hz
      rcases List.mem_append.1 hz with hz | hz
      · simp at hz; omega
      · have := dataS_lt h z hz
        omega
    have hpt : pt < W2.heap.size := by omega
    have hpv : pv < W2.heap.size := by omega
    have hpz : w.heap.size + 1 < W2.heap.size := by omega
    have hpw : w.heap.size ≤ W2.heap.size := by omega
    have hpz1 : w.heap.size + 1 ≠ pt := by omega
    have hpz2 : w.heap.size + 1 ≠ pv := by omega
    have hpt0 : w.heap.size ≤ pt := by omega
    have hsz2 := hidden hsz2
    refine wpIn_rangeFunc_ownG rfl (by omega) (gf := 37) (lb := #[.pointer (some ⟨wc.heap.size + 1, 0, none⟩), .pointer (some ⟨wc.heap.size + 2, 0, none⟩), .pointer (some ⟨wc.heap.size, 0, none⟩)]) rfl trivial (enters_of Try.func37 (by kernel_rfl) rfl)
      (places_stops 5 (by omega) wc.heap.size (wc.heap.size + 1) (wc.heap.size + 2) pu a b (.slice ad D.length cap) (.int .i64 (c : Int)) D hb hy8 hl ([pu, wc.heap.size, wc.heap.size + 1, wc.heap.size + 2] ++ dataS (.slice ad D.length cap) D.length) (by simp) (by simp) (by simp) (by simp) (fun hn g hg => by simp [dataS, hn, hg]) W2 hlt b0 b1 b2 bu2 hR2) keepz_t (keepz_b hlt) (Below.refl _ _) (fun _ => rfl)
      (fun pre W => (∃ v', Tape W pt W2.heap.size v' (pshs [] 0 (pre.map b2i)) (0 + pre.length)) ∧ (Blk W pv 57 [.pointer (some ⟨pt, 0, none⟩)] ∧ Blk W (w.heap.size + 1) 24 [.slice none 0 0, .int .i64 0]) ∧ Below w.heap.size w W ∧ W2.heap.size ≤ W.heap.size)
      (fun _ _ _ => False)
      (OwnFrom.and (Own.from (tape_own _ _ _ _) _) (OwnFrom.and (OwnFrom.and (Own.from (blk_own _ _ _) _) (Own.from (blk_own _ _ _) _)) (OwnFrom.and (ownFrom_below (Nat.le_refl _) hpw) (Own.from (size_own _) _))))
      (fun _ _ _ _ _ hs _ _ => hs)
      ⟨⟨_, bt2, own8_nil _ _, WF.nil⟩, ⟨bv2, bz2⟩, hEW, Nat.le_refl _⟩
      (fun x => { tmps := #[Value.agg #[Value.slice ad D.length cap, Value.int IntKind.i64 (c : Int)], Value.int IntKind.i64 (a : Int), Value.int IntKind.i64 (b : Int), Value.pointer (some { block := w.heap.size, off := 0 }), undef, undef, Value.pointer (some { block := w.heap.size + 1, off := 0 }), Value.int IntKind.i64 0, Value.int IntKind.i64 0, Value.pointer (some { block := pv, off := 0 }), Value.pointer (some { block := pu, off := 0 }), Value.bool x, Value.agg #[Value.slice ad D.length cap, Value.int IntKind.i64 (c : Int)], Value.int IntKind.i64 0, Value.int IntKind.i64 0, Value.bool false, undef, undef, Value.int IntKind.i64 (a : Int), Value.bool false, Value.bool false, Value.int IntKind.i64 (a : Int), Value.int IntKind.i64 (b : Int), Value.bool false, Value.bool false, Value.bool false, Value.int IntKind.i64 (b : Int), Value.pointer (some { block := w.heap.size, off := 1 }), Value.int IntKind.i64 (c : Int), Value.bool false, Value.bool false, undef, u32, u33, u34, u35, u36, Value.pointer (some { block := pu, off := 0 }), Value.int IntKind.i64 (a : Int), Value.int IntKind.i64 (b : Int), Value.func (Fn.func 37) #[] #[.pointer (some ⟨wc.heap.size + 1, 0, none⟩), .pointer (some ⟨wc.heap.size + 2, 0, none⟩), .pointer (some ⟨wc.heap.size, 0, none⟩)], Value.bool x, u42, u43, u44, u45, u46, u47, u48], defers := [] }) ?assign ?body ?done ?stop
    case assign =>
      intro l x W K hK
      gi_wp2
      exact hK
    case body =>
      rintro l pre x W ⟨⟨v', hT⟩, ⟨hV, hZ⟩, hB, hs2⟩ hlen
      have cv := hV.cell 0 _ rfl
      have hsn : pshs [] 0 ((pre ++ [x]).map b2i) = psh (pshs [] 0 (pre.map b2i)) (0 + pre.length) (b2i x) := by rw [List.map_append, List.map_singleton, pshs_snoc, List.length_map]
      have hsn := hidden hsn
      have hlen' : 0 + pre.length ≤ 600000 := by omega
      have hT' := hidden hT
      have hV' := hidden hV
      have hZ' := hidden hZ
      have hB' := hidden hB
      clear hT hV hZ hB
      gi_wp2_with (refine ⟨trivial, ?_⟩; gi_at_call 31; refine (CallsIn.inRound l (callsIn_wide.2 (push_any pt W2.heap.size (0 + pre.length) v' _ x hlen' W hs2 hT'.out))).mono ?_; rintro e w3 ⟨rfl, v3, hT3, hS3, hC3⟩)
      have hp := hT'.out.past
      refine ⟨(hC3.keeps hT'.out.cells).from _, ⟨KeepS.chg hC3 (fun z hz => ⟨Nat.lt_of_lt_of_le (hlt z hz) hs2, hp z (hlt z hz) (hnd z hz)⟩), hC3.size⟩, ⟨v3, ?_⟩, ⟨hV'.out.chg hC3 (hp _ hpv (by omega)), hZ'.out.chg hC3 (hp _ hpz hpz1)⟩, ?_, Nat.le_trans hs2 hC3.size⟩
      · rw [hsn.out, List.length_append]; exact hT3
      · refine Below.trans hB'.out (Chg.below hC3 (fun z hz => ?_) (Nat.le_trans hpw hs2))
        rcases Nat.lt_or_ge z w.heap.size with hz1 | hz1
        · exact absurd hz (hp z (by omega) (by omega))
        · exact hz1
    case done =>
      rintro E ys W hD rfl ⟨⟨v', hT⟩, ⟨hV, hZ⟩, hB, hs2⟩ hK
      rw [bo_cut, bo_len, Nat.zero_add] at hT
      have hfr : Fresh w v' := Fresh.of_own hT.own hpw
      have hfr2 : v'.ownBlock ≠ some (w.heap.size + 1) := Fresh.of_own (w := W2) hT.own (Nat.le_refl _) _ hpz
      have hfr2 := hidden hfr2
      have hown := hT.own
      obtain ⟨x1, x2, rfl, x3, x4, x5⟩ := Rd.shape hT.own.rd
      have ct0 := hT.blk.cell 0 _ rfl
      have ct1 := hT.blk.cell 1 _ rfl
      have cv := hV.cell 0 _ rfl
      have cz0 := hZ.cell 0 _ rfl
      have cz1 := hZ.cell 1 _ rfl
      have fz0 := hZ.frozen 0
      have fz1 := hZ.frozen 1
      have hEne : E ≠ w.heap.size + 1 := by omega
      have HT := hidden hT
      have HZ := hidden hZ
      have HB := hidden hB
      have HK := hidden hK
      have hown := hidden hown
      have hfr := hidden hfr
      clear hT hZ hB hK hV
      gi_wp2
      have hZ3 := (HZ.out.set 0 (.slice x1 (pshs [] 0 (cut D a (b - a))).length x2)).set 1 (.int .i64 ((b - a : Nat) : Int))
      have hB3 := (HB.out.setCell (p := ⟨w.heap.size + 1, 0, none⟩) (by simp) (.slice x1 (pshs [] 0 (cut D a (b - a))).length x2)).setCell (p := ⟨w.heap.size + 1, 1, none⟩) (by simp) (.int .i64 ((b - a : Nat) : Int))
      have hK3 := (Below.heap_setCell (W.setCell ⟨w.heap.size + 1, 0, none⟩ (.slice x1 (pshs [] 0 (cut D a (b - a))).length x2)) ⟨w.heap.size + 1, 1, none⟩ (.int .i64 ((b - a : Nat) : Int)) E hEne).trans ((Below.heap_setCell W ⟨w.heap.size + 1, 0, none⟩ (.slice x1 (pshs [] 0 (cut D a (b - a))).length x2) E hEne).trans HK.out)
      have hO3 := ownsRow_setCell_other (ownsRow_setCell_other hown.out (a := ⟨w.heap.size + 1, 0, none⟩) (hfr2.out) (.slice x1 (pshs [] 0 (cut D a (b - a))).length x2)) (a := ⟨w.heap.size + 1, 1, none⟩) (hfr2.out) (.int .i64 ((b - a : Nat) : Int))
      have hO5 := ownsRow_putObj hO3 (.deferred none) hK3 rfl
      have hB5 := Below.trans hB3 (belowK_b (n₀ := w.heap.size) (w := w) (Nat.le_refl _) _ E _ (.deferred none) (by omega) hK3 rfl rfl)
      have hZ5 := (World.putObj_heap_other (w := (W.setCell ⟨w.heap.size + 1, 0, none⟩ (.slice x1 (pshs [] 0 (cut D a (b - a))).length x2)).setCell ⟨w.heap.size + 1, 1, none⟩ (.int .i64 ((b - a : Nat) : Int))) (o := .deferred none) (Ne.symm hEne)).trans hZ3
      refine ⟨by simp, .inl ⟨_, _, rfl, run_takeDeferred hK3, ?_⟩⟩
      have hfr := hfr.out
      have hE5 : Ext w _ := hB5
      clear hB5 hO3 hB3 hZ3 hK3 ct0 ct1 cv cz0 cz1 fz0 fz1
      revert hE5 hO5 hZ5
      generalize World.putObj _ E _ = W5
      intro hO5 hZ5 hE5
      have cz0 := Blk.cell (hZ5 : Blk W5 _ _ [.slice x1 (pshs [] 0 (cut D a (b - a))).length x2, .int .i64 ((b - a : Nat) : Int)]) 0 _ rfl
      have cz1 := Blk.cell (hZ5 : Blk W5 _ _ [.slice x1 (pshs [] 0 (cut D a (b - a))).length x2, .int .i64 ((b - a : Nat) : Int)]) 1 _ rfl
      exact ⟨.tuple #[.agg #[.slice x1 (pshs [] 0 (cut D a (b - a))).length x2, .int .i64 ((b - a : Nat) : Int)], .int .i64 0], by simp [results, Try.f15, go_sem, cz0, cz1], x1, x2, rfl, Own8.rd hO5, hfr, hE5⟩
    case stop =>
      rintro D c pre W _ _ h _
      exact h.elim
end Go.Proofs.Ytfnlekehcaehkaa
