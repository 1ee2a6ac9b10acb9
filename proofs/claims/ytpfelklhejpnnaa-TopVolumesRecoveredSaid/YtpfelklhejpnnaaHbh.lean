/- volume.set.all: a range over a map. -/
import Derived.Test.YtpfelklhejpnnaaHbe
import Derived.Test.YtpfelklhejpnnaaHah
import Derived.Test.YtpfelklhejpnnaaHbc
namespace Go.Proofs.Ytpfelklhejpnnaa
open Go.RowKit Go.MapKept Go.ChangeMaps
set_option linter.unusedVariables false
set_option linter.unusedSimpArgs false
attribute [local go_sem ↓] Go.wp_at_zero Go.wp_at_succ

/-- The part at an index, of those entries that have been seen. -/
def pAt : Nat → List (Int × List Int) → Array Nat → Int → List Int
  | _, [], _, _ => []
  | n, e :: r, seen, j => if e.1 = j ∧ seen.contains n = true then e.2 else pAt (n + 1) r seen j
def outK (es : List (Int × List Int)) (seen : Array Nat) (N : Nat) : List (List Int) := (List.range N).map fun (j : Nat) => pAt 0 es seen (j : Int)
/-- .. of all. -/
def lookP (es : List (Int × List Int)) (j : Int) : List Int := match es.find? (fun e => e.1 == j) with | some e => e.2 | none => []
def allF (es : List (Int × List Int)) (N : Nat) : List (List Int) := (List.range N).map fun (j : Nat) => lookP es (j : Int)
theorem outK_len (es : List (Int × List Int)) (seen : Array Nat) (N : Nat) : (outK es seen N).length = N := by simp [outK]
theorem pAt_nil : ∀ (es : List (Int × List Int)) (n : Nat) (j : Int), pAt n es #[] j = []
  | [], _, _ => rfl
  | e :: r, n, j => by simp [pAt, pAt_nil r]
theorem outK_zero (es : List (Int × List Int)) (N : Nat) : outK es #[] N = List.replicate N [] := by
  unfold outK
  apply List.ext_getElem (by simp)
  intro i h1 h2
  simp [pAt_nil]
theorem pAt_all : ∀ (es : List (Int × List Int)) (n : Nat) (seen : Array Nat) (j : Int), (∀ i, i < es.length → seen.contains (n + i) = true) → pAt n es seen j = lookP es j
  | [], _, _, _, _ => rfl
  | e :: r, n, seen, j, h => by
    have h0 := h 0 (by simp)
    rw [Nat.add_zero] at h0
    unfold pAt lookP
    rw [List.find?_cons]
    by_cases he : e.1 = j
    · rw [if_pos ⟨he, h0⟩]
      simp [he]
    · rw [if_neg (fun h => he h.1)]
      have : (e.1 == j) = false := by simp [he]
      rw [this]
      exact pAt_all r (n + 1) seen j (fun i hi => by have := h (i + 1) (by simp; omega); rwa [show n + 1 + i = n + (i + 1) by omega])
theorem contains_push' (seen : Array Nat) (b n : Nat) : (seen.push b).contains n = true ↔ seen.contains n = true ∨ n = b := by
  simp [Array.contains_iff_mem, Array.mem_push]
theorem pAt_push_other : ∀ (es : List (Int × List Int)) (n i : Nat) (seen : Array Nat) (j : Int), (∀ e, es[i]? = some e → e.1 ≠ j) → pAt n es (seen.push (n + i)) j = pAt n es seen j
  | [], _, _, _, _, _ => rfl
  | e :: r, n, i, seen, j, h => by
    unfold pAt
    by_cases he : e.1 = j
    · cases i with
      | zero => exact absurd he (h e rfl)
      | succ i =>
        have ih := pAt_push_other r (n + 1) i seen j (fun x hx => h x (by simpa using hx))
        rw [show n + 1 + i = n + (i + 1) by omega] at ih
        rw [ih]
        have : (seen.push (n + (i + 1))).contains n = seen.contains n := by
          rw [Bool.eq_iff_iff, contains_push']
          constructor
          · rintro (h1 | h1)
            · exact h1
            · omega
          · exact Or.inl
        rw [this]
    · rw [if_neg (fun h => he h.1), if_neg (fun h => he h.1)]
      cases i with
      | zero =>
        -- the entry pushed is this one: it is not at j
        clear h
        have key : ∀ (r : List (Int × List Int)) (m : Nat), n < m → pAt m r (seen.push n) j = pAt m r seen j := by
          intro r
          induction r with
          | nil => intro m _; rfl
          | cons x r ih =>
            intro m hm
            unfold pAt
            rw [ih (m + 1) (by omega)]
            have : (seen.push n).contains m = seen.contains m := by
              rw [Bool.eq_iff_iff, contains_push']
              constructor
              · rintro (h1 | h1)
                · exact h1
                · omega
              · exact Or.inl
            rw [this]
        rw [Nat.add_zero]
        exact key r (n + 1) (by omega)
      | succ i =>
        have ih := pAt_push_other r (n + 1) i seen j (fun x hx => h x (by simpa using hx))
        rw [show n + 1 + i = n + (i + 1) by omega] at ih
        exact ih
theorem pAt_push_same : ∀ (es : List (Int × List Int)) (n i : Nat) (seen : Array Nat) (hi : i < es.length), es.Pairwise (fun a b => a.1 ≠ b.1) → pAt n es (seen.push (n + i)) es[i].1 = es[i].2
  | [], _, _, _, hi, _ => by simp at hi
  | e :: r, n, i, seen, hi, hp => by
    obtain ⟨h1, h2⟩ := List.pairwise_cons.1 hp
    cases i with
    | zero =>
      unfold pAt
      exact if_pos ⟨rfl, by rw [contains_push']; exact Or.inr rfl⟩
    | succ i =>
      have hi' : i < r.length := by simpa using hi
      have ih := pAt_push_same r (n + 1) i seen hi' h2
      rw [show n + 1 + i = n + (i + 1) by omega] at ih
      unfold pAt
      rw [if_neg (fun h => h1 _ (List.getElem_mem hi') h.1)]
      exact ih
theorem outK_push (es : List (Int × List Int)) (seen : Array Nat) (N i k : Nat) (hi : i < es.length) (hp : es.Pairwise (fun a b => a.1 ≠ b.1)) (hk : es[i].1 = (k : Int)) (hkN : k < N) : outK es (seen.push i) N = (outK es seen N).set k es[i].2 := by
  apply List.ext_getElem (by simp [outK])
  intro j h1 h2
  rw [List.getElem_set]
  simp only [outK, List.getElem_map, List.getElem_range]
  by_cases e : k = j
  · subst e
    rw [if_pos rfl, ← hk]
    have := pAt_push_same es 0 i seen hi hp
    rwa [Nat.zero_add] at this
  · rw [if_neg e]
    have := pAt_push_other es 0 i seen (j : Int) (fun x hx hx2 => by
      rw [List.getElem?_eq_getElem hi] at hx
      cases hx
      omega)
    rwa [Nat.zero_add] at this
theorem mem_ents : ∀ (l : List (Int × Value)) (n : Nat) (e : MapEntry), e ∈ ents n l → ∃ (i : Nat) (p : Int × Value), l[i]? = some p ∧ e = ⟨.int .i64 p.1, p.2, n + i⟩
  | [], _, _, h => by cases h
  | p :: r, n, e, h => by
    rcases List.mem_cons.1 h with rfl | h
    · exact ⟨0, p, rfl, rfl⟩
    · obtain ⟨i, q, h1, h2⟩ := mem_ents r (n + 1) e h
      exact ⟨i + 1, q, by simpa using h1, by rw [h2]; congr 1; omega⟩
theorem ents_mem : ∀ (l : List (Int × Value)) (n i : Nat) (p : Int × Value), l[i]? = some p → ⟨.int .i64 p.1, p.2, n + i⟩ ∈ ents n l
  | [], _, _, _, h => by simp at h
  | p :: r, n, 0, q, h => by simp at h; subst h; simp [ents]
  | p :: r, n, i + 1, q, h => by
    have := ents_mem r (n + 1) i q (by simpa using h)
    rw [show n + 1 + i = n + (i + 1) by omega] at this
    exact List.mem_cons_of_mem _ this
theorem ents_born : ∀ (l : List (Int × Value)) (n : Nat), (ents n l).map (·.born) = (List.range l.length).map (n + ·)
  | [], _ => rfl
  | p :: r, n => by
    show n :: (ents (n + 1) r).map (·.born) = _
    rw [ents_born r (n + 1), List.length_cons, List.range_succ_eq_map, List.map_cons, List.map_map]
    simp only [Nat.add_zero]
    congr 1
    apply List.map_congr_left
    intro i _
    simp
    omega
theorem ents_nodup (l : List (Int × Value)) : ((ents 0 l).map (·.born)).Nodup := by
  rw [ents_born]
  simp
  exact List.nodup_range
def leftM (w : World) (mb r : Nat) : Nat := match w.heap[mb]?, w.heap[r]? with
  | some (.map es _), some (.mapIter _ _ seen _) => (leftOf es seen).size
  | _, _ => 0
theorem leftM_eq {w : World} {mb r b s c : Nat} {es : Array MapEntry} {cl : Nat} {seen : Array Nat} (h1 : w.heap[mb]? = some (.map es cl)) (h2 : w.heap[r]? = some (.mapIter (some b) s seen c)) : leftM w mb r = (leftOf es seen).size := by
  unfold leftM
  rw [h1, h2]
end Go.Proofs.Ytpfelklhejpnnaa

/- volume.set.all: the walk. -/
namespace Go.Proofs.Ytpfelklhejpnnaa
open Go.RowKit Go.MapKept Go.ChangeMaps
set_option linter.unusedVariables false
set_option linter.unusedSimpArgs false
attribute [local go_sem ↓] Go.wp_at_zero Go.wp_at_succ

theorem setC_lit (hd : List Int) (mb : Nat) : (setC hd mb).toArray = #[.int .u32 (hd.getD 0 0), .int .i64 (hd.getD 1 0), .int .i64 (hd.getD 2 0), .int .i64 (hd.getD 3 0), .int .i64 (hd.getD 4 0), .map (some mb)] := rfl
set_option maxRecDepth 100000 in
set_option maxHeartbeats 2000000 in
theorem all_any (hd : List Int) (d r N : Nat) (hd2 : hd.getD 2 0 = (d : Int)) (hd3 : hd.getD 3 0 = (r : Int)) (hN : d + r = N) (h1N : 1 ≤ N) (hN64 : N ≤ 64) (mb B : Nat) (es : List (Int × List Int))
    (hks : ∀ e ∈ es, ∃ k : Nat, e.1 = (k : Int) ∧ k < N) (hpw : es.Pairwise (fun a b => a.1 ≠ b.1)) (w : World) (hM : MapM w mb B es) :
    Calls Try.prog 23 #[.agg (setC hd mb).toArray] w fun e w' => ∃ v, e = .returned v ∧ OL w' w.heap.size v (allF es N) ∧ Ext w w' := by
  rw [setC_lit, hd2, hd3]
  obtain ⟨g0, hg0⟩ : ∃ y, hd.getD 0 0 = y := ⟨_, rfl⟩
  obtain ⟨g1, hg1⟩ : ∃ y, hd.getD 1 0 = y := ⟨_, rfl⟩
  obtain ⟨g4, hg4⟩ : ∃ y, hd.getD 4 0 = y := ⟨_, rfl⟩
  rw [hg0, hg1, hg4]
  clear hd2 hd3 hg0 hg1 hg4
  obtain ⟨q, hq⟩ : ∃ q, w.heap.size = q := ⟨_, rfl⟩
  have hX0 : Ext w (w.alloc (.cells #[.int .u32 g0, .int .i64 g1, .int .i64 (d : Int), .int .i64 (r : Int), .int .i64 g4, .map (some mb)] 58)) := (Ext.refl w).alloc _
  have b0 : Blk (w.alloc (.cells #[.int .u32 g0, .int .i64 g1, .int .i64 (d : Int), .int .i64 (r : Int), .int .i64 g4, .map (some mb)] 58)) q 58 [.int .u32 g0, .int .i64 g1, .int .i64 (d : Int), .int .i64 (r : Int), .int .i64 g4, .map (some mb)] := blk_newAt' w _ _ q hq
  have v0 : IntKind.i64.wrap ((d : Int) + (r : Int)) = (N : Int) := by rw [IntWalk.i64_in _ (by omega)]; omega
  have hmk := fun W => mk_rows N N (Nat.le_refl _) (by omega) W
  replace hmk := hidden hmk
  replace hM := hidden hM
  replace hks := hidden hks
  replace hpw := hidden hpw
  go_enter Try.func23, Try.ntmps23
  go_upto_region 1 with fail
  obtain ⟨w1, hw1⟩ : ∃ X, w.alloc (.cells #[.int .u32 g0, .int .i64 g1, .int .i64 (d : Int), .int .i64 (r : Int), .int .i64 g4, .map (some mb)] 58) = X := ⟨_, rfl⟩
  rw [hw1] at hX0 b0 ⊢
  clear hw1
  have c2 := b0.cell 2 _ rfl
  have c3 := b0.cell 3 _ rfl
  have c5 := b0.cell 5 _ rfl
  have hmk1 := hmk.out w1
  have hO2 : OL (w1.alloc (.cells (madeCells #[.slice none 0 0] N) 22)) w1.heap.size (.slice (some ⟨w1.heap.size, 0, none⟩) N N) (List.replicate N []) := own_rows w1 N N (Nat.le_refl _) (by omega)
  have hX1 : Ext w1 (w1.alloc (.cells (madeCells #[.slice none 0 0] N) 22)) := (Ext.refl w1).alloc _
  obtain ⟨ob, hob⟩ : ∃ y, w1.heap.size = y := ⟨_, rfl⟩
  rw [hob] at hO2
  go_upto_region 2 with fail
  obtain ⟨w2, hw2⟩ : ∃ X, w1.alloc (.cells (madeCells #[.slice none 0 0] N) 22) = X := ⟨_, rfl⟩
  rw [hw2] at hX1 hO2 ⊢
  clear hw2 hmk1 hmk
  have c52 := hX1.cell c5
  have hX2 : Ext w w2 := hX0.trans hX1
  obtain ⟨l, hl10, hl2, hl3⟩ := hM.out
  have hl1 := tbl_ext hX2 hl10
  have hmbw : mb < w.heap.size := (Array.getElem?_eq_some_iff.1 hl10).1
  obtain ⟨m, hm⟩ : ∃ m, l.length = m := ⟨_, rfl⟩
  have hl1' : w2.heap[mb]? = some (.map (ents 0 l).toArray m) := by rw [← hm]; exact hl1
  replace hl2 := hidden hl2
  have hconv : ∀ W : World, W.heap[mb]? = some (tblObj l) → W.heap[mb]? = some (.map (ents 0 l).toArray m) := fun W h => h.trans (by unfold tblObj; rw [hm])
  replace hconv := hidden hconv
  replace hm := hidden hm
  have hrg := run_range_map (P := Try.prog) w2 56 3 22 mb _ _ Try.underlying56 hl1'
  obtain ⟨ri, hri⟩ : ∃ y, w2.heap.size = y := ⟨_, rfl⟩
  have hit : (w2.alloc (.mapIter (some mb) m #[] m)).heap[ri]? = some (.mapIter (some mb) m #[] m) := by rw [← hri]; exact heap_alloc_new w2 _
  have hX3 : Ext w2 (w2.alloc (.mapIter (some mb) m #[] m)) := (Ext.refl w2).alloc _
  have hobr : ob < ri := by have := hO2.lt (g := ob) rfl; omega
  have hqob : w.heap.size ≤ ob := by have := hX0.size; omega
  go_upto_region 3 with fail
  obtain ⟨w3, hw3⟩ : ∃ X, w2.alloc (.mapIter (some mb) m #[] m) = X := ⟨_, rfl⟩
  rw [hw3] at hit hX3 ⊢
  clear hw3 hrg
  have hmr : mb < ri := by have := (Array.getElem?_eq_some_iff.1 hl1).1; omega
  have hO3 : Hid (OL w3 w.heap.size (.slice (some ⟨ob, 0, none⟩) N N) (outK es #[] N)) := hidden (by rw [outK_zero]; exact (hO2.ext hX3).base hqob)
  have hX03 : Hid (Ext w w3) := hidden (hX2.trans hX3)
  have hM3 : Hid (w3.heap[mb]? = some (tblObj l)) := hidden (tbl_ext hX3 hl1)
  replace hit := hidden hit
  replace hl3 := hidden hl3
  clear hO2 hX1 hX2 hX3 hl1 hl1' hl10 c2 c3 c5 c52 b0 hX0 v0 hM
  go_loopw [] (fun wr => ∃ seen : Array Nat, Hid (OL wr w.heap.size (.slice (some ⟨ob, 0, none⟩) N N) (outK es seen N)) ∧ Hid (wr.heap[ri]? = some (.mapIter (some mb) m seen m)) ∧ Hid (wr.heap[mb]? = some (tblObj l)) ∧ Hid (Ext w wr) ∧ Hid (ri < wr.heap.size)) (fun wr => leftM wr mb ri)
  case atStart => exact ⟨#[], hO3, hit, hM3, hX03, hidden (Array.getElem?_eq_some_iff.1 hit.out).1⟩
  case round =>
    obtain ⟨seen, hO, hit, hM, hX, hrs⟩ := hrel
    obtain ⟨w4, hWW⟩ : ∃ X, X = wr := ⟨_, rfl⟩
    subst hWW
    have hMe : w4.heap[mb]? = some (.map (ents 0 l).toArray m) := hconv.out _ hM.out
    have hold : ∀ x ∈ ((ents 0 l).toArray).toList, x.born < m := fun x hx => by
      obtain ⟨i, p, h1, h2⟩ := mem_ents l 0 x (by simpa using hx)
      have := (List.getElem?_eq_some_iff.1 h1).1
      have := hm.out
      rw [h2]
      simp
      omega
    have hnx := run_next_at (P := Try.prog) w4 0 ri mb m m seen (ents 0 l).toArray m hit.out hMe hold (Nat.le_refl m)
    have hmeas : Hid (leftM w4 mb ri = (leftOf (ents 0 l).toArray seen).size) := hidden (leftM_eq hMe hit.out)
    rcases hnx with ⟨h0, hrun⟩ | ⟨e, he, w5, hw5, hrun⟩
    · have hfin : Hid (OL w4 w.heap.size (.slice (some ⟨ob, 0, none⟩) N N) (allF es N)) := hidden (by
        have : outK es seen N = allF es N := by
          unfold outK allF
          refine List.map_congr_left fun j _ => ?_
          refine pAt_all es 0 seen _ (fun i hi => ?_)
          rw [Nat.zero_add]
          have hil : i < l.length := by have := hl2.out; omega
          have := all_seen _ _ h0 _ (by simpa using ents_mem l 0 i _ (List.getElem?_eq_getElem hil))
          simpa using this
        rw [← this]
        exact hO.out)
      clear hold hmeas hMe hO
      go_wp2_with fail
      go_ret
      exact ⟨_, rfl, hfin.out, hX.out⟩
    · obtain ⟨hem, hes⟩ := mem_left he
      have hsh := left_shrinks (ents 0 l).toArray seen e he
      obtain ⟨i, p, hp1, hp2⟩ := mem_ents l 0 e (by simpa using hem)
      rw [Nat.zero_add] at hp2
      have hil := (List.getElem?_eq_some_iff.1 hp1).1
      have hie : i < es.length := by have := hl2.out; omega
      obtain ⟨hpk, hpr, -⟩ := hl3.out i p (es[i]'hie) hp1 (List.getElem?_eq_getElem hie)
      obtain ⟨k, hk1, hk2⟩ := hks.out _ (List.getElem_mem hie)
      have hpush := outK_push es seen N i k hie hpw.out hk1 hk2
      have hent := run_entry_at (P := Try.prog) (setBlock w5 ri (.mapIter (some mb) m (seen.push e.born) m)) ri mb m seen (ents 0 l).toArray m e
      obtain ⟨ua, uc, hpv⟩ := rd8_one hpr
      rw [hk1] at hpk
      subst hp2
      simp only [hpk, hpv] at hrun hent hsh hem
      rw [hpv] at hpr
      obtain ⟨D, hD⟩ : ∃ y, es[i].2 = y := ⟨_, rfl⟩
      obtain ⟨dl, hdl⟩ : ∃ y, D.length = y := ⟨_, rfl⟩
      simp only [hD, hdl] at hrun hent hsh hem
      rw [hD] at hpr hpush
      rw [hdl] at hpr
      have hg : w4.grownBy (setBlock w5 ri (.mapIter (some mb) m (seen.push i) m)) (some ri) := by
        obtain ⟨y1, y2, y3, y4⟩ : w5.os = w4.os ∧ w5.tape = w4.tape ∧ w5.output = w4.output ∧ w5.heap = w4.heap := by rcases hw5 with h | h <;> (rw [h]; exact ⟨rfl, rfl, rfl, rfl⟩)
        refine ⟨y1, y2, y3, by simp [setBlock, y4], fun j _ hj => ?_⟩
        have hne : ri ≠ j := fun h => hj (by rw [h])
        show (w5.heap.setIfInBounds ri _)[j]? = _
        rw [Array.getElem?_setIfInBounds_ne hne, y4]
      have hC6 : Chg [ri] w4 (setBlock w5 ri (.mapIter (some mb) m (seen.push i) m)) := (Chg.refl [ri] w4).grown hg (fun j hj => Or.inl (by simp at hj; simp [hj]))
      have hit6 : (setBlock w5 ri (.mapIter (some mb) m (seen.push i) m)).heap[ri]? = some (.mapIter (some mb) m (seen.push i) m) := setBlock_at (by rcases hw5 with h | h <;> (rw [h]; exact hrs.out)) _
      have hM6 := hC6.heap (b := mb) (by simp; omega) hM.out
      have hMe6 : (setBlock w5 ri (.mapIter (some mb) m (seen.push i) m)).heap[mb]? = some (.map (ents 0 l).toArray m) := hconv.out _ hM6
      have hent6 := hent hit6 hMe6 hem (by simpa using ents_nodup l)
      have hO6 : OL (setBlock w5 ri (.mapIter (some mb) m (seen.push i) m)) w.heap.size (.slice (some ⟨ob, 0, none⟩) N N) (outK es seen N) := ol_own (β := Unit) _ _ (fun _ => outK es seen N) () w4 _ (some ri) hO.out hg (fun j hj => by cases hj; exact ⟨_, hit.out, rfl⟩)
      have hX6 : Ext w (setBlock w5 ri (.mapIter (some mb) m (seen.push i) m)) := Chg.ext ((Chg.of_ext [] hX.out).trans hC6 (fun x hx => Or.inr (by simp at hx; omega)))
      obtain ⟨w6, hw6⟩ : ∃ X, setBlock w5 ri (.mapIter (some mb) m (seen.push i) m) = X := ⟨_, rfl⟩
      simp only [hw6] at hrun hent6
      rw [hw6] at hC6 hit6 hM6 hO6 hX6
      obtain ⟨qc, hqc⟩ := hO6.celln hk2
      have hfz : w6.frozen? ⟨ob, k, none⟩ = false := by
        obtain ⟨vs, hv⟩ := hO6.vals
        rw [outK_len] at hv
        exact World.ownsRow.frozenAt hv k
      have hk3 : (k : Int) < (N : Int) := by omega
      have hfin : Hid (OL (w6.setCell ⟨ob, k, none⟩ (.slice ua dl uc)) w.heap.size (.slice (some ⟨ob, 0, none⟩) N N) (outK es (seen.push i) N) ∧ (w6.setCell ⟨ob, k, none⟩ (.slice ua dl uc)).heap[ri]? = some (.mapIter (some mb) m (seen.push i) m) ∧ (w6.setCell ⟨ob, k, none⟩ (.slice ua dl uc)).heap[mb]? = some (tblObj l) ∧ Ext w (w6.setCell ⟨ob, k, none⟩ (.slice ua dl uc)) ∧ ri < (w6.setCell ⟨ob, k, none⟩ (.slice ua dl uc)).heap.size) := hidden (by
        have hCs : Chg [ob] w6 (w6.setCell ⟨ob, k, none⟩ (.slice ua dl uc)) := (Chg.refl [ob] w6).setCell (Or.inl (by simp)) _
        refine ⟨?_, hCs.heap (by simp; omega) hit6, hCs.heap (by simp; omega) hM6, Chg.ext ((Chg.of_ext [] hX6).trans hCs (fun x hx => Or.inr (by simp at hx; omega))), ?_⟩
        · rw [hpush]
          refine hO6.set hk2 (hpr.ext hX6) (fun h0 hb => ?_)
          have := Rd.off hpr (p := ob) (by omega) (by omega)
          exact this hb
        · have := hC6.size; have := hCs.size; have := hrs.out; omega)
      have hms : Hid (leftM (w6.setCell ⟨ob, k, none⟩ (.slice ua dl uc)) mb ri < leftM w4 mb ri) := hidden (by
        rw [hmeas.out, leftM_eq (hconv.out _ hfin.out.2.2.1) hfin.out.2.1]
        exact hsh)
      clear hold hmeas hMe hMe6 hO hO6 hX6 hC6 hM6 hit6 hg hent hsh hem hes he hpush hpr hD hdl hpk hpv hp1 hil hie hk1 hw5 hw6
      go_wp2_with fail
      exact ⟨⟨seen.push i, hidden hfin.out.1, hidden hfin.out.2.1, hidden hfin.out.2.2.1, hidden hfin.out.2.2.2.1, hidden hfin.out.2.2.2.2⟩, hms.out⟩
end Go.Proofs.Ytpfelklhejpnnaa

/- volume.set.join. -/
namespace Go.Proofs.Ytpfelklhejpnnaa
open Go.RowKit Go.MapKept Go.ChangeMaps
set_option linter.unusedVariables false
set_option linter.unusedSimpArgs false
attribute [local go_sem ↓] Go.wp_at_zero Go.wp_at_succ

theorem RL.take {w : World} {ad : Option Addr} {n cap : Nat} {L : List (List Int)} (h : RL w (.slice ad n cap) L) (k : Nat) (hk : k ≤ n) :
    ∃ a' cap', (∀ w, (Instr.sliceAt 26 (.slice ad n cap) none (some (.int .i64 (k : Int))) none).run Try.prog w = .ok (.slice a' k cap') w) ∧ ∃ vs, Rd w 1 (.slice a' k cap') vs.length vs ∧ RdC w vs ((L.take k).map bs) ∧ vs.length = k := by
  have hL := h.len
  obtain ⟨vs, h1, h2⟩ := h
  rw [hL] at h1
  have hvl : vs.length = n := by have := h2.1; rw [List.length_map] at this; omega
  obtain ⟨a', cap', r1, r2⟩ := cut_h (P := Try.prog) (t := 26) Try.underlying26 Try.sizeOf22 h1 k (k : Int) rfl hk
  have htl : (vs.take k).length = k := by rw [List.length_take]; omega
  refine ⟨a', cap', r1, vs.take k, by rw [htl]; simpa using r2, ⟨by rw [htl, List.length_map, List.length_take]; omega, fun i u C hu hC => ?_⟩, htl⟩
  by_cases hi : i < k
  · rw [List.getElem?_take_of_lt hi] at hu
    rw [List.getElem?_map, List.getElem?_take_of_lt hi, ← List.getElem?_map] at hC
    exact h2.2 i u C hu hC
  · rw [List.getElem?_eq_none (by omega)] at hu
    cases hu
theorem flat_bs : ∀ (L : List (List Int)), (L.map bs).flatten = bs L.flatten
  | [] => rfl
  | l :: r => by
    simp only [List.map_cons, List.flatten_cons, bs_app]
    rw [flat_bs r]
/-- What is known of a set: its head, its parts. -/
structure SetOK (b : List Int) (d r : Nat) (es : List (Int × List Int)) : Prop where
  keys : ∀ e ∈ es, ∃ k : Nat, e.1 = (k : Int) ∧ k < d + r
  pw : es.Pairwise (fun a b => a.1 ≠ b.1)
  fits : Fits (allF es (d + r)) (sizeF b.length d)
  byt : ∀ l ∈ allF es (d + r), Bytes l
  inv : d ≤ (PI (ln (allF es (d + r))) (d + r)).length → InvOK (someF (allF es (d + r)) d) d ∧ repF (allF es (d + r)) d (sizeF b.length d) = fullF b d r
def headF (b : List Int) (d r : Nat) : List Int := [(sumI b : Int), 0, (d : Int), (r : Int), (b.length : Int)]
def pres (es : List (Int × List Int)) (N : Nat) : Nat := (PI (ln (allF es N)) N).length
def JoinP (w : World) (b : List Int) (d r : Nat) (es : List (Int × List Int)) (e : Ending) (w' : World) : Prop :=
  (pres es (d + r) < d ∧ e = .returned (.tuple #[.slice none 0 0, .int .i64 26]) ∧ Ext w w') ∨ (d ≤ pres es (d + r) ∧ ∃ v, e = .returned (.tuple #[v, .int .i64 0]) ∧ Rd8 w' v b ∧ Ext w w')
theorem allF_len (es : List (Int × List Int)) (N : Nat) : (allF es N).length = N := by simp [allF]
theorem chunks_flat (s : Nat) : ∀ (d : Nat) (l : List Int), l.length = d * s → ((List.range d).map fun i => (l.drop (i * s)).take s).flatten = l
  | 0, l, h => by
    have : l = [] := List.eq_nil_of_length_eq_zero (by omega)
    subst this
    rfl
  | d + 1, l, h => by
    rw [Nat.add_mul, Nat.one_mul] at h
    rw [List.range_succ_eq_map, List.map_cons, List.map_map, List.flatten_cons]
    have ih := chunks_flat s d (l.drop s) (by rw [List.length_drop]; omega)
    have e : ((List.range d).map ((fun i => (l.drop (i * s)).take s) ∘ Nat.succ)) = (List.range d).map fun i => ((l.drop s).drop (i * s)).take s := by
      apply List.map_congr_left
      intro i _
      simp only [Function.comp]
      rw [List.drop_drop, show s + i * s = (i + 1) * s by rw [Nat.add_mul, Nat.one_mul, Nat.add_comm]]
    rw [e, ih]
    simp
theorem cut_flat (b : List Int) (d s : Nat) (h : b.length ≤ d * s) : ((cutF b d s).flatten).take b.length = b := by
  unfold cutF cutR
  rw [chunks_flat s d (padF b (d * s)) (padF_len b _ h)]
  unfold padF
  rw [List.take_left]
set_option maxRecDepth 100000 in
set_option maxHeartbeats 4000000 in
theorem join_any (b : List Int) (d r : Nat) (h1d : 1 ≤ d) (hdr : d + r ≤ 64) (hb : Bytes b) (hbl : b.length ≤ 1000) (es : List (Int × List Int)) (hS : SetOK b d r es) (mb B : Nat) (w : World) (hM : MapM w mb B es) :
    Calls Try.prog 22 #[.agg (setC (headF b d r) mb).toArray] w (JoinP w b d r es) := by
  have hsp := sizeF_pos b.length d
  have hsl := sizeF_le b.length d h1d 1000 (by omega) hbl
  have hsge := sizeF_ge b.length d h1d
  have hfl := fullF_len b d r
  have htk : (fullF b d r).take d = cutF b d (sizeF b.length d) := by unfold fullF; rw [List.take_left' (cutF_len b d _)]
  have hfb := fullF_bytes hb d r
  have hflat : ((fullF b d r).take d).flatten.take b.length = b := by rw [htk]; exact cut_flat b d _ hsge
  have hcl : ((fullF b d r).take d).flatten.length = d * sizeF b.length d := by
    rw [htk]
    unfold cutF cutR
    rw [chunks_flat _ d (padF b (d * sizeF b.length d)) (padF_len b _ hsge), padF_len b _ hsge]
  obtain ⟨s, hs⟩ : ∃ s, sizeF b.length d = s := ⟨_, rfl⟩
  have hds : d * s ≤ 64 * 1000 := Nat.mul_le_mul (by omega) (by omega)
  have hall := fun W (h : MapM W mb B es) => all_any (headF b d r) d r (d + r) rfl rfl rfl (by omega) hdr mb B es hS.keys hS.pw W h
  have hrep := fun v W (h : RL W v (allF es (d + r))) => repair_any (d + r) d s (by omega) hdr h1d (by omega) (hs ▸ hsp) (hs ▸ hsl) v (allF es (d + r)) (allF_len es (d + r)) (hs ▸ hS.fits) hS.byt (fun h => (hS.inv (by rw [allF_len] at h; exact h)).1) W h
  have hrf := fun h => (hS.inv h).2
  have hcat := fun v vs CS a b w h1 h2 h3 => concat8_any v vs CS a b w h1 h2 h3
  have hsum := fun W v (h : Rd8 W v b) => sum_any v b hb (by omega) W h
  have hslt := sumI_lt b
  rw [hs] at hcl hrf hsge
  have hlit : (setC (headF b d r) mb).toArray = #[.int .u32 (sumI b : Int), .int .i64 0, .int .i64 (d : Int), .int .i64 (r : Int), .int .i64 (b.length : Int), .map (some mb)] := rfl
  rw [hlit] at hall ⊢
  obtain ⟨S, hSe⟩ : ∃ y, sumI b = y := ⟨_, rfl⟩
  rw [hSe] at hall hsum hslt ⊢
  obtain ⟨n, hn⟩ : ∃ y, b.length = y := ⟨_, rfl⟩
  rw [hn] at hbl hsge hflat hall ⊢
  obtain ⟨q, hq⟩ : ∃ q, w.heap.size = q := ⟨_, rfl⟩
  have hX0 : Ext w (w.alloc (.cells #[.int .u32 (S : Int), .int .i64 0, .int .i64 (d : Int), .int .i64 (r : Int), .int .i64 (n : Int), .map (some mb)] 58)) := (Ext.refl w).alloc _
  have b0 : Blk (w.alloc (.cells #[.int .u32 (S : Int), .int .i64 0, .int .i64 (d : Int), .int .i64 (r : Int), .int .i64 (n : Int), .map (some mb)] 58)) q 58 [.int .u32 (S : Int), .int .i64 0, .int .i64 (d : Int), .int .i64 (r : Int), .int .i64 (n : Int), .map (some mb)] := blk_newAt' w _ _ q hq
  have hP : pres es (d + r) = (PI (ln (allF es (d + r))) (d + r)).length := rfl
  replace hM := hidden hM
  replace hall := hidden hall
  replace hrep := hidden hrep
  replace hrf := hidden hrf
  replace hcat := hidden hcat
  replace hsum := hidden hsum
  replace hflat := hidden hflat
  replace hcl := hidden hcl
  replace hfb := hidden hfb
  replace hP := hidden hP
  go_enter Try.func22, Try.ntmps22
  go_upto_region 1 with fail
  obtain ⟨w1, hw1⟩ : ∃ X, w.alloc (.cells #[.int .u32 (S : Int), .int .i64 0, .int .i64 (d : Int), .int .i64 (r : Int), .int .i64 (n : Int), .map (some mb)] 58) = X := ⟨_, rfl⟩
  rw [hw1] at hX0 b0 ⊢
  clear hw1
  have hM1 := hM.out.chg (Chg.of_ext [] hX0) (by simp)
  have hal := hall.out w1.drew (hM1.chg (Chg.of_ext [] (Ext.refl w1).drew) (by simp))
  replace hM1 := hidden hM1
  replace hal := hidden hal
  replace hX0 := hidden hX0
  clear hM hall htk
  refine wp_region_D (S := fun w' : World => Blk w' q 58 [.int .u32 (S : Int), .int .i64 0, .int .i64 (d : Int), .int .i64 (r : Int), .int .i64 (n : Int), .map (some mb)]) (D := []) (by kernel_rfl) b0 (fun HS => ?_)
  refine takeD 0 [] (.agg #[.int .u32 (S : Int), .int .i64 0, .int .i64 (d : Int), .int .i64 (r : Int), .int .i64 (n : Int), .map (some mb)]) rfl rfl (by kernel_rfl) (by kernel_rfl) (by kernel_rfl) (by kernel_rfl) (by decide) (by decide) (fun _ _ _ h => h) (by rfl) (fun w' hw' => by have b0' : Blk w' q 58 [.int .u32 (S : Int), .int .i64 0, .int .i64 (d : Int), .int .i64 (r : Int), .int .i64 (n : Int), .map (some mb)] := hw'; have c0 := b0'.cell 0 _ rfl; have c1 := b0'.cell 1 _ rfl; have c2 := b0'.cell 2 _ rfl; have c3 := b0'.cell 3 _ rfl; have c4 := b0'.cell 4 _ rfl; have c5 := b0'.cell 5 _ rfl; go_simp) HS ?_
  try simp only [List.setIfInBounds_toArray, List.set_cons_zero, List.set_cons_succ]
  refine takeD 2 [] (.pointer (some ⟨q, 0, none⟩)) rfl rfl (by kernel_rfl) (by kernel_rfl) (by kernel_rfl) (by kernel_rfl) (by decide) (by decide) (fun _ _ _ h => h) (by rfl) (fun w' hw' => by go_simp) HS ?_
  try simp only [List.setIfInBounds_toArray, List.set_cons_zero, List.set_cons_succ]
  refine takeD 3 [] (.pointer (some ⟨q, 2, none⟩)) rfl rfl (by kernel_rfl) (by kernel_rfl) (by kernel_rfl) (by kernel_rfl) (by decide) (by decide) (fun _ _ _ h => h) (by rfl) (fun w' hw' => by go_simp) HS ?_
  try simp only [List.setIfInBounds_toArray, List.set_cons_zero, List.set_cons_succ]
  refine takeD 4 [] (.int .i64 (d : Int)) rfl rfl (by kernel_rfl) (by kernel_rfl) (by kernel_rfl) (by kernel_rfl) (by decide) (by decide) (fun _ _ _ h => h) (by rfl) (fun w' hw' => by have b0' : Blk w' q 58 [.int .u32 (S : Int), .int .i64 0, .int .i64 (d : Int), .int .i64 (r : Int), .int .i64 (n : Int), .map (some mb)] := hw'; have c0 := b0'.cell 0 _ rfl; have c1 := b0'.cell 1 _ rfl; have c2 := b0'.cell 2 _ rfl; have c3 := b0'.cell 3 _ rfl; have c4 := b0'.cell 4 _ rfl; have c5 := b0'.cell 5 _ rfl; go_simp) HS ?_
  try simp only [List.setIfInBounds_toArray, List.set_cons_zero, List.set_cons_succ]
  refine callVD 1 23 #[.agg #[.int .u32 (S : Int), .int .i64 0, .int .i64 (d : Int), .int .i64 (r : Int), .int .i64 (n : Int), .map (some mb)]] rfl rfl (by kernel_rfl) (by rfl) (by go_simp) hal.out ?_
  rintro e w2 ⟨v2, rfl, hO2, hX2⟩
  have b2 : Blk w2 q 58 [.int .u32 (S : Int), .int .i64 0, .int .i64 (d : Int), .int .i64 (r : Int), .int .i64 (n : Int), .map (some mb)] := b0.ext hX2.past_drew
  refine Or.inl ⟨_, rfl, fun _ => b2, ?_⟩
  try simp only [List.setIfInBounds_toArray, List.set_cons_zero, List.set_cons_succ]
  have hrp := hrep.out v2 w2 hO2.rl
  have hX02 : Ext w w2 := hX0.out.trans hX2.past_drew
  refine callVD 5 37 #[v2, .int .i64 (d : Int)] rfl rfl (by kernel_rfl) (by rfl) (by go_simp) hrp ?_
  rintro e w3 (⟨hlo, rfl, hX3⟩ | ⟨hlo, v3, rfl, hO3, hX3⟩)
  · have b3 : Blk w3 q 58 [.int .u32 (S : Int), .int .i64 0, .int .i64 (d : Int), .int .i64 (r : Int), .int .i64 (n : Int), .map (some mb)] := b2.ext hX3
    refine Or.inl ⟨_, rfl, fun _ => b3, ?_⟩
    try simp only [List.setIfInBounds_toArray, List.set_cons_zero, List.set_cons_succ]
    refine takeD 6 [] (.tuple #[.slice none 0 0, .int .i64 26]) rfl rfl (by kernel_rfl) (by kernel_rfl) (by kernel_rfl) (by kernel_rfl) (by decide) (by decide) (fun _ _ _ h => h) (by rfl) (fun w' hw' => by go_simp) b3 ?_
    try simp only [List.setIfInBounds_toArray, List.set_cons_zero, List.set_cons_succ]
    refine takeD 7 [] (.slice none 0 0) rfl rfl (by kernel_rfl) (by kernel_rfl) (by kernel_rfl) (by kernel_rfl) (by decide) (by decide) (fun _ _ _ h => h) (by rfl) (fun w' hw' => by go_simp) b3 ?_
    try simp only [List.setIfInBounds_toArray, List.set_cons_zero, List.set_cons_succ]
    refine takeD 8 [] (.int .i64 26) rfl rfl (by kernel_rfl) (by kernel_rfl) (by kernel_rfl) (by kernel_rfl) (by decide) (by decide) (fun _ _ _ h => h) (by rfl) (fun w' hw' => by go_simp) b3 ?_
    try simp only [List.setIfInBounds_toArray, List.set_cons_zero, List.set_cons_succ]
    refine takeD 9 [] (.slice none 0 0) rfl rfl (by kernel_rfl) (by kernel_rfl) (by kernel_rfl) (by kernel_rfl) (by decide) (by decide) (fun _ _ _ h => h) (by rfl) (fun w' hw' => by go_simp) b3 ?_
    try simp only [List.setIfInBounds_toArray, List.set_cons_zero, List.set_cons_succ]
    refine takeD 10 [] (.int .i64 26) rfl rfl (by kernel_rfl) (by kernel_rfl) (by kernel_rfl) (by kernel_rfl) (by decide) (by decide) (fun _ _ _ h => h) (by rfl) (fun w' hw' => by go_simp) b3 ?_
    try simp only [List.setIfInBounds_toArray, List.set_cons_zero, List.set_cons_succ]
    refine wpAnyD_done (by kernel_rfl) ?_ _
    show _
    rw [allF_len] at hlo
    have hfin : Hid (JoinP w b d r es (.returned (.tuple #[.slice none 0 0, .int .i64 26])) w3) := hidden (Or.inl ⟨by rw [hP.out]; exact hlo, rfl, hX02.trans hX3⟩)
    clear hlo b2 b3 hX3 hX02 hO2 hX2 hrp hal HS
    go_wp2_with fail
    refine bodyPost_ret (results_tmp2 rfl _ _ _) rfl ?_
    exact hfin.out
  · have b3 : Blk w3 q 58 [.int .u32 (S : Int), .int .i64 0, .int .i64 (d : Int), .int .i64 (r : Int), .int .i64 (n : Int), .map (some mb)] := b2.ext hX3
    refine Or.inl ⟨_, rfl, fun _ => b3, ?_⟩
    try simp only [List.setIfInBounds_toArray, List.set_cons_zero, List.set_cons_succ]
    refine takeD 6 [] (.tuple #[v3, .int .i64 0]) rfl rfl (by kernel_rfl) (by kernel_rfl) (by kernel_rfl) (by kernel_rfl) (by decide) (by decide) (fun _ _ _ h => h) (by rfl) (fun w' hw' => by go_simp) b3 ?_
    try simp only [List.setIfInBounds_toArray, List.set_cons_zero, List.set_cons_succ]
    refine takeD 7 [] (v3) rfl rfl (by kernel_rfl) (by kernel_rfl) (by kernel_rfl) (by kernel_rfl) (by decide) (by decide) (fun _ _ _ h => h) (by rfl) (fun w' hw' => by go_simp) b3 ?_
    try simp only [List.setIfInBounds_toArray, List.set_cons_zero, List.set_cons_succ]
    refine takeD 8 [] (.int .i64 0) rfl rfl (by kernel_rfl) (by kernel_rfl) (by kernel_rfl) (by kernel_rfl) (by decide) (by decide) (fun _ _ _ h => h) (by rfl) (fun w' hw' => by go_simp) b3 ?_
    try simp only [List.setIfInBounds_toArray, List.set_cons_zero, List.set_cons_succ]
    refine takeD 9 [] (v3) rfl rfl (by kernel_rfl) (by kernel_rfl) (by kernel_rfl) (by kernel_rfl) (by decide) (by decide) (fun _ _ _ h => h) (by rfl) (fun w' hw' => by go_simp) b3 ?_
    try simp only [List.setIfInBounds_toArray, List.set_cons_zero, List.set_cons_succ]
    refine takeD 10 [] (.int .i64 0) rfl rfl (by kernel_rfl) (by kernel_rfl) (by kernel_rfl) (by kernel_rfl) (by decide) (by decide) (fun _ _ _ h => h) (by rfl) (fun w' hw' => by go_simp) b3 ?_
    try simp only [List.setIfInBounds_toArray, List.set_cons_zero, List.set_cons_succ]
    refine wpAnyD_done (by kernel_rfl) ?_ _
    show _
    rw [allF_len] at hlo
    rw [hrf.out hlo] at hO3
    obtain ⟨a3, c3', hve, -, -⟩ := hO3.shape
    rw [hfl] at hve
    subst hve
    obtain ⟨a4, c4', hcut, vs4, hR4, hC4, hl4⟩ := hO3.rl.take d (by omega)
    rw [hl4] at hR4
    have hflb := flat_bs ((fullF b d r).take d)
    have hX03 : Ext w w3 := hX02.trans hX3
    have hcc := fun W (hE : Ext w3 W) => hcat.out (.slice a4 d c4') vs4 _ (by rw [hflb, bs_len, hcl.out]; omega) (by omega) W (by rw [hl4]; exact hR4.ext hE) (hC4.ext hE) (fun C hC u hu => by
      obtain ⟨y, -, rfl⟩ := List.mem_map.1 hC
      exact bs_one _ u hu)
    rw [hflb, bs_len, hcl.out] at hcc
    have hcc4 := hcc w3.drew (Ext.refl w3).drew
    replace hcc4 := hidden hcc4
    replace hlo := hidden hlo
    replace hX03 := hidden hX03
    replace hR4 := hidden hR4
    clear hcc hC4 hO3 hX3 hX02 hO2 hX2 hrp hal HS b2 hl4 hflb
    go_upto_region 4 with fail
    refine wp_region_D (S := fun w' : World => Blk w' q 58 [.int .u32 (S : Int), .int .i64 0, .int .i64 (d : Int), .int .i64 (r : Int), .int .i64 (n : Int), .map (some mb)]) (D := []) (by kernel_rfl) b3 (fun HS => ?_)
    refine takeD 0 [] (.slice a3 (d + r) c3') rfl rfl (by kernel_rfl) (by kernel_rfl) (by kernel_rfl) (by kernel_rfl) (by decide) (by decide) (fun _ _ _ h => h) (by rfl) (fun w' hw' => by go_simp) HS ?_
    try simp only [List.setIfInBounds_toArray, List.set_cons_zero, List.set_cons_succ]
    refine takeD 1 [] (.pointer (some ⟨q, 0, none⟩)) rfl rfl (by kernel_rfl) (by kernel_rfl) (by kernel_rfl) (by kernel_rfl) (by decide) (by decide) (fun _ _ _ h => h) (by rfl) (fun w' hw' => by go_simp) HS ?_
    try simp only [List.setIfInBounds_toArray, List.set_cons_zero, List.set_cons_succ]
    refine takeD 2 [] (.pointer (some ⟨q, 2, none⟩)) rfl rfl (by kernel_rfl) (by kernel_rfl) (by kernel_rfl) (by kernel_rfl) (by decide) (by decide) (fun _ _ _ h => h) (by rfl) (fun w' hw' => by go_simp) HS ?_
    try simp only [List.setIfInBounds_toArray, List.set_cons_zero, List.set_cons_succ]
    refine takeD 3 [] (.int .i64 (d : Int)) rfl rfl (by kernel_rfl) (by kernel_rfl) (by kernel_rfl) (by kernel_rfl) (by decide) (by decide) (fun _ _ _ h => h) (by rfl) (fun w' hw' => by have b0' : Blk w' q 58 [.int .u32 (S : Int), .int .i64 0, .int .i64 (d : Int), .int .i64 (r : Int), .int .i64 (n : Int), .map (some mb)] := hw'; have c0 := b0'.cell 0 _ rfl; have c1 := b0'.cell 1 _ rfl; have c2 := b0'.cell 2 _ rfl; have c3 := b0'.cell 3 _ rfl; have c4 := b0'.cell 4 _ rfl; have c5 := b0'.cell 5 _ rfl; go_simp) HS ?_
    try simp only [List.setIfInBounds_toArray, List.set_cons_zero, List.set_cons_succ]
    refine takeD 6 [] (.pointer (some ⟨q, 0, none⟩)) rfl rfl (by kernel_rfl) (by kernel_rfl) (by kernel_rfl) (by kernel_rfl) (by decide) (by decide) (fun _ _ _ h => h) (by rfl) (fun w' hw' => by go_simp) HS ?_
    try simp only [List.setIfInBounds_toArray, List.set_cons_zero, List.set_cons_succ]
    refine takeD 7 [] (.pointer (some ⟨q, 4, none⟩)) rfl rfl (by kernel_rfl) (by kernel_rfl) (by kernel_rfl) (by kernel_rfl) (by decide) (by decide) (fun _ _ _ h => h) (by rfl) (fun w' hw' => by go_simp) HS ?_
    try simp only [List.setIfInBounds_toArray, List.set_cons_zero, List.set_cons_succ]
    refine takeD 8 [] (.int .i64 (n : Int)) rfl rfl (by kernel_rfl) (by kernel_rfl) (by kernel_rfl) (by kernel_rfl) (by decide) (by decide) (fun _ _ _ h => h) (by rfl) (fun w' hw' => by have b0' : Blk w' q 58 [.int .u32 (S : Int), .int .i64 0, .int .i64 (d : Int), .int .i64 (r : Int), .int .i64 (n : Int), .map (some mb)] := hw'; have c0 := b0'.cell 0 _ rfl; have c1 := b0'.cell 1 _ rfl; have c2 := b0'.cell 2 _ rfl; have c3 := b0'.cell 3 _ rfl; have c4 := b0'.cell 4 _ rfl; have c5 := b0'.cell 5 _ rfl; go_simp) HS ?_
    try simp only [List.setIfInBounds_toArray, List.set_cons_zero, List.set_cons_succ]
    refine valueD 4 (.slice a4 d c4') rfl rfl (by kernel_rfl) (by rfl) (w' := w3.drew) (by go_simp) (fun _ => HS) ?_
    try simp only [List.setIfInBounds_toArray, List.set_cons_zero, List.set_cons_succ]
    refine callVD 5 38 #[.slice a4 d c4'] rfl rfl (by kernel_rfl) (by rfl) (by go_simp) hcc4.out ?_
    rintro e w5 ⟨v5, rfl, hO5, hX5⟩
    have b5 : Blk w5 q 58 [.int .u32 (S : Int), .int .i64 0, .int .i64 (d : Int), .int .i64 (r : Int), .int .i64 (n : Int), .map (some mb)] := b3.ext hX5.past_drew
    refine Or.inl ⟨_, rfl, fun _ => b5, ?_⟩
    try simp only [List.setIfInBounds_toArray, List.set_cons_zero, List.set_cons_succ]
    have hR5 : Rd8 w5 v5 ((fullF b d r).take d).flatten := by
      unfold Rd8
      rw [hcl.out]
      exact Rd.of_own hO5
    obtain ⟨a5, c5', hve⟩ := rd8_one hR5
    rw [hcl.out] at hve
    subst hve
    obtain ⟨a6, c6', hcut6, hR6⟩ := take4_rd hR5 hcl.out n hsge
    rw [hflat.out] at hR6
    have hX05 : Ext w w5 := hX03.out.trans hX5.past_drew
    refine valueD 9 (.slice a6 n c6') rfl rfl (by kernel_rfl) (by rfl) (w' := w5) (by go_simp) (fun _ => b5) ?_
    try simp only [List.setIfInBounds_toArray, List.set_cons_zero, List.set_cons_succ]
    refine takeD 10 [] (.slice a6 n c6') rfl rfl (by kernel_rfl) (by kernel_rfl) (by kernel_rfl) (by kernel_rfl) (by decide) (by decide) (fun _ _ _ h => h) (by rfl) (fun w' hw' => by go_simp) b5 ?_
    try simp only [List.setIfInBounds_toArray, List.set_cons_zero, List.set_cons_succ]
    refine wpAnyD_done (by kernel_rfl) ?_ _
    show _
    have hsm := hsum.out w5.drew _ (hR6.ext (Ext.refl w5).drew)
    replace hsm := hidden hsm
    replace hX05 := hidden hX05
    replace hR6 := hidden hR6
    clear hO5 hX5 hR5 hcut6 hcut hcc4 hR4 HS b3
    go_upto_region 5 with fail
    refine wp_region_D (S := fun w' : World => Blk w' q 58 [.int .u32 (S : Int), .int .i64 0, .int .i64 (d : Int), .int .i64 (r : Int), .int .i64 (n : Int), .map (some mb)]) (D := []) (by kernel_rfl) b5 (fun HS => ?_)
    refine takeD 0 [] (.slice a6 n c6') rfl rfl (by kernel_rfl) (by kernel_rfl) (by kernel_rfl) (by kernel_rfl) (by decide) (by decide) (fun _ _ _ h => h) (by rfl) (fun w' hw' => by go_simp) HS ?_
    try simp only [List.setIfInBounds_toArray, List.set_cons_zero, List.set_cons_succ]
    refine takeD 2 [] (.pointer (some ⟨q, 0, none⟩)) rfl rfl (by kernel_rfl) (by kernel_rfl) (by kernel_rfl) (by kernel_rfl) (by decide) (by decide) (fun _ _ _ h => h) (by rfl) (fun w' hw' => by go_simp) HS ?_
    try simp only [List.setIfInBounds_toArray, List.set_cons_zero, List.set_cons_succ]
    refine takeD 3 [] (.pointer (some ⟨q, 0, none⟩)) rfl rfl (by kernel_rfl) (by kernel_rfl) (by kernel_rfl) (by kernel_rfl) (by decide) (by decide) (fun _ _ _ h => h) (by rfl) (fun w' hw' => by go_simp) HS ?_
    try simp only [List.setIfInBounds_toArray, List.set_cons_zero, List.set_cons_succ]
    refine takeD 4 [] (.int .u32 (S : Int)) rfl rfl (by kernel_rfl) (by kernel_rfl) (by kernel_rfl) (by kernel_rfl) (by decide) (by decide) (fun _ _ _ h => h) (by rfl) (fun w' hw' => by have b0' : Blk w' q 58 [.int .u32 (S : Int), .int .i64 0, .int .i64 (d : Int), .int .i64 (r : Int), .int .i64 (n : Int), .map (some mb)] := hw'; have c0 := b0'.cell 0 _ rfl; have c1 := b0'.cell 1 _ rfl; have c2 := b0'.cell 2 _ rfl; have c3 := b0'.cell 3 _ rfl; have c4 := b0'.cell 4 _ rfl; have c5 := b0'.cell 5 _ rfl; go_simp) HS ?_
    try simp only [List.setIfInBounds_toArray, List.set_cons_zero, List.set_cons_succ]
    refine callVD 1 15 #[.slice a6 n c6'] rfl rfl (by kernel_rfl) (by rfl) (by go_simp) hsm.out ?_
    rintro e w7 ⟨rfl, hX7⟩
    have b7 : Blk w7 q 58 [.int .u32 (S : Int), .int .i64 0, .int .i64 (d : Int), .int .i64 (r : Int), .int .i64 (n : Int), .map (some mb)] := b5.ext hX7.past_drew
    refine Or.inl ⟨_, rfl, fun _ => b7, ?_⟩
    try simp only [List.setIfInBounds_toArray, List.set_cons_zero, List.set_cons_succ]
    refine takeD 5 [] (.bool false) rfl rfl (by kernel_rfl) (by kernel_rfl) (by kernel_rfl) (by kernel_rfl) (by decide) (by decide) (fun _ _ _ h => h) (by rfl) (fun w' hw' => by go_simp) b7 ?_
    try simp only [List.setIfInBounds_toArray, List.set_cons_zero, List.set_cons_succ]
    refine wpAnyD_done (by kernel_rfl) ?_ _
    show _
    have hfin : Hid (JoinP w b d r es (.returned (.tuple #[.slice a6 n c6', .int .i64 0])) w7) := hidden (Or.inr ⟨by rw [hP.out]; exact hlo.out, _, rfl, hR6.out.ext hX7.past_drew, hX05.out.trans hX7.past_drew⟩)
    clear hsm hR6 hX7 hX05 HS b5 b7
    go_wp2_with fail
    refine bodyPost_ret (results_tmp2 rfl _ _ _) rfl ?_
    exact hfin.out
end Go.Proofs.Ytpfelklhejpnnaa
