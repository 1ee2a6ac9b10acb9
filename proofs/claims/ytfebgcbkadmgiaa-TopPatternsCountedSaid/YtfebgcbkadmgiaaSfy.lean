/- Layer 33: before. -/
import Derived.Test.YtfebgcbkadmgiaaSfx
namespace Go.Proofs.Ytfebgcbkadmgiaa
open Go.RowKit Go.Shelf
set_option linter.unusedVariables false
set_option linter.unusedSimpArgs false
attribute [local go_sem] Oper.semAt_some

/-- How many rows before a row have a byte. -/
def rowN (pr row : Nat) : Nat := if pr < row then row - 1 else row
def cntC (D : List Int) (k : Nat) (c : Int) : Nat := (D.take k).countP fun x => decide (x = c)
def cpre {n : Nat} (D : List Int) (c : Int) (pre : List (Fin n)) : Nat := pre.countP fun x => decide (D.getD x.val 0 = c)
theorem cpre_snoc {n : Nat} (D : List Int) (c : Int) (pre : List (Fin n)) (x : Fin n) : cpre D c (pre ++ [x]) = cpre D c pre + (if D.getD x.val 0 = c then 1 else 0) := by
  unfold cpre
  rw [List.countP_append, List.countP_cons, List.countP_nil]
  by_cases h : D.getD x.val 0 = c <;> simp [h]
theorem cpre_le {n : Nat} (D : List Int) (c : Int) (pre : List (Fin n)) : cpre D c pre ≤ pre.length := List.countP_le_length
theorem cpre_up {n : Nat} (D : List Int) (c : Int) (hn : D.length = n) : ∀ k, k ≤ n → cpre D c (upF n k) = cntC D k c
  | 0, _ => by simp [cpre, upF, cntC]
  | k + 1, hk => by
    have ih := cpre_up D c hn k (by omega)
    rw [upF_succ (by omega), cpre_snoc, ih]
    unfold cntC
    rw [List.take_add_one, List.getElem?_eq_getElem (by omega), List.countP_append]
    have : D.getD k 0 = D[k]'(by omega) := by rw [List.getD_eq_getElem?_getD, List.getElem?_eq_getElem (by omega)]; rfl
    simp only [this]
    by_cases e : D[k]'(by omega) = c <;> simp [e]
theorem up_snoc {n k : Nat} {ini : List (Fin n)} {x : Fin n} (hk : k ≤ n) (h : ini ++ [x] = upF n k) : ini = upF n x.val ∧ k = x.val + 1 := by
  have hl : ini.length + 1 = k := by
    have := congrArg List.length h
    rw [upF_len hk, List.length_append] at this
    exact this
  obtain ⟨j, rfl⟩ : ∃ j, k = j + 1 := ⟨k - 1, by omega⟩
  rw [upF_succ (by omega)] at h
  obtain ⟨h1, h2⟩ := List.append_inj h (by rw [upF_len (by omega)]; omega)
  have h3 : x = ⟨j, by omega⟩ := by simpa using h2
  subst h3
  exact ⟨h1, rfl⟩
theorem rowN_done {pr row n : Nat} (hpr : pr ≤ n) (h : ∀ i, i < n → rowI pr i < row) : n ≤ rowN pr row := by
  by_cases h0 : n = 0
  · omega
  · have := h (n - 1) (by omega)
    unfold rowI at this
    unfold rowN
    split at this <;> split <;> omega
theorem rowN_stop {pr row j n : Nat} (hpr : pr ≤ n) (h : ∀ i, i < j → rowI pr i < row) (h2 : row ≤ rowI pr j) : rowN pr row = j := by
  unfold rowN
  by_cases h0 : j = 0
  · subst h0
    unfold rowI at h2
    split at h2 <;> split <;> omega
  · have := h (j - 1) (by omega)
    unfold rowI at this h2
    split at this <;> split at h2 <;> split <;> omega
theorem mem_up {n k : Nat} (hk : k ≤ n) (i : Nat) (hi : i < k) : (⟨i, by omega⟩ : Fin n) ∈ upF n k := by
  unfold upF
  rw [List.mem_take_iff_getElem]
  exact ⟨i, by simp; omega, by simp⟩

def BefP (w : World) (r : Nat) (e : Ending) (w' : World) : Prop := e = .returned (.int .i64 (r : Int)) ∧ Ext w w'
/-- The loop was left at a row that lies not before. -/
def LeftB {n : Nat} (D : List Int) (pr row : Nat) (c : Int) (B : Nat) (cd : Code) (pre : List (Fin n)) (W : World) : Prop := ∃ (ini : List (Fin n)) (x : Fin n), pre = ini ++ [x] ∧ (∀ y ∈ ini, rowI pr y.val < row) ∧ row ≤ rowI pr x.val ∧ Blk W B 3 [.int .i64 (cpre D c ini : Int)] ∧ cd = .exit 0
theorem leftB_own {n : Nat} (D : List Int) (pr row : Nat) (c : Int) (B : Nat) (cd : Code) : Own (LeftB (n := n) D pr row c B cd) := fun s X Y r hs hg hrow => by
  obtain ⟨ini, x, h1, h2, h3, h4, h5⟩ := hs
  exact ⟨ini, x, h1, h2, h3, blk_own (β := Unit) B 3 (fun _ => [.int .i64 (cpre D c ini : Int)]) () X Y r h4 hg hrow, h5⟩
theorem all_own {n : Nat} (pr row : Nat) : Own (fun (pre : List (Fin n)) (_ : World) => ∀ y ∈ pre, rowI pr y.val < row) := fun s X Y r hs hg hrow => hs

set_option maxRecDepth 100000 in
set_option maxHeartbeats 4000000 in
theorem before_any (v : Value) (D : List Int) (pr n row : Nat) (c : Int) (hb : Bytes D) (hne : D.length = n) (hn : n ≤ 1000) (hpr : pr ≤ n) (hrow : row ≤ n + 1) (w : World) (hr : Rd8 w v D) :
    Calls Try.prog 32 #[.agg #[v, .int .i64 (pr : Int)], .int .i64 (row : Int), .int .u8 c] w (BefP w (cntC D (rowN pr row) c)) := by
  obtain ⟨ad, cap, rfl, q1, q2, q3⟩ := Rd.shape hr
  have hR : Hid (Rd8 w (.slice ad n cap) D) := hidden (by rw [← hne]; exact hr)
  rw [hne] at q1 ⊢
  clear hr
  replace hb := hidden hb
  replace hne := hidden hne
  refine (callsIn_wide (n := 6)).1 ?_
  refine callsIn_of_wp_marks Try.func32 rfl trivial ?_ rfl
  simp only [Try.ntmps32, List.size_toArray, List.length_cons, List.length_nil, Nat.reduceAdd, Nat.reduceSub, Array.replicate_succ, Array.replicate_zero, List.push_toArray, List.append_toArray, List.nil_append, List.cons_append]
  refine wpIn_wide.2 ?_
  go_wp2_with (go_at_call 43; refine (all_any _ (pr : Int) _ ad n cap rfl).mono ?_; rintro e w2 ⟨rfl, rfl⟩)
  -- THE LOOP
  obtain ⟨s, hs⟩ : ∃ s, w.heap.size = s := ⟨_, rfl⟩
  rw [hs]
  have hsz : (((((w.alloc (.cells #[.slice ad n cap, .int .i64 (pr : Int)] 46)).alloc (.cells #[.int .i64 (row : Int)] 3)).alloc (.cells #[.int .u8 c] 5)).alloc (.cells #[.int .i64 0] 3)).alloc (.cells #[.slice ad n cap, .int .i64 (pr : Int)] 46)).heap.size = s + 1 + 1 + 1 + 1 + 1 := by simp only [World.size_alloc, hs]
  have e1 : Blk (((((w.alloc (.cells #[.slice ad n cap, .int .i64 (pr : Int)] 46)).alloc (.cells #[.int .i64 (row : Int)] 3)).alloc (.cells #[.int .u8 c] 5)).alloc (.cells #[.int .i64 0] 3)).alloc (.cells #[.slice ad n cap, .int .i64 (pr : Int)] 46)) (s + 1) 3 [.int .i64 (row : Int)] := by
    have := ((((blk_newAt' (w.alloc (.cells #[.slice ad n cap, .int .i64 (pr : Int)] 46)) [.int .i64 (row : Int)] 3 (s + 1) (by simp only [World.size_alloc, hs])).alloc (.cells #[.int .u8 c] 5)).alloc (.cells #[.int .i64 0] 3)).alloc (.cells #[.slice ad n cap, .int .i64 (pr : Int)] 46))
    exact this
  have e2 : Blk (((((w.alloc (.cells #[.slice ad n cap, .int .i64 (pr : Int)] 46)).alloc (.cells #[.int .i64 (row : Int)] 3)).alloc (.cells #[.int .u8 c] 5)).alloc (.cells #[.int .i64 0] 3)).alloc (.cells #[.slice ad n cap, .int .i64 (pr : Int)] 46)) (s + 1 + 1) 5 [.int .u8 c] := by
    have := (((blk_newAt' ((w.alloc (.cells #[.slice ad n cap, .int .i64 (pr : Int)] 46)).alloc (.cells #[.int .i64 (row : Int)] 3)) [.int .u8 c] 5 (s + 1 + 1) (by simp only [World.size_alloc, hs])).alloc (.cells #[.int .i64 0] 3)).alloc (.cells #[.slice ad n cap, .int .i64 (pr : Int)] 46))
    exact this
  have e3 : Blk (((((w.alloc (.cells #[.slice ad n cap, .int .i64 (pr : Int)] 46)).alloc (.cells #[.int .i64 (row : Int)] 3)).alloc (.cells #[.int .u8 c] 5)).alloc (.cells #[.int .i64 0] 3)).alloc (.cells #[.slice ad n cap, .int .i64 (pr : Int)] 46)) (s + 1 + 1 + 1) 3 [.int .i64 0] := by
    have := ((blk_newAt' (((w.alloc (.cells #[.slice ad n cap, .int .i64 (pr : Int)] 46)).alloc (.cells #[.int .i64 (row : Int)] 3)).alloc (.cells #[.int .u8 c] 5)) [.int .i64 0] 3 (s + 1 + 1 + 1) (by simp only [World.size_alloc, hs])).alloc (.cells #[.slice ad n cap, .int .i64 (pr : Int)] 46))
    exact this
  have e4 : Blk (((((w.alloc (.cells #[.slice ad n cap, .int .i64 (pr : Int)] 46)).alloc (.cells #[.int .i64 (row : Int)] 3)).alloc (.cells #[.int .u8 c] 5)).alloc (.cells #[.int .i64 0] 3)).alloc (.cells #[.slice ad n cap, .int .i64 (pr : Int)] 46)) (s + 1 + 1 + 1 + 1) 46 [.slice ad n cap, .int .i64 (pr : Int)] := by
    have := (blk_newAt' ((((w.alloc (.cells #[.slice ad n cap, .int .i64 (pr : Int)] 46)).alloc (.cells #[.int .i64 (row : Int)] 3)).alloc (.cells #[.int .u8 c] 5)).alloc (.cells #[.int .i64 0] 3)) [.slice ad n cap, .int .i64 (pr : Int)] 46 (s + 1 + 1 + 1 + 1) (by simp only [World.size_alloc, hs]))
    exact this
  have e5 : Ext w (((((w.alloc (.cells #[.slice ad n cap, .int .i64 (pr : Int)] 46)).alloc (.cells #[.int .i64 (row : Int)] 3)).alloc (.cells #[.int .u8 c] 5)).alloc (.cells #[.int .i64 0] 3)).alloc (.cells #[.slice ad n cap, .int .i64 (pr : Int)] 46)) := (((((Ext.refl w).alloc _).alloc _).alloc _).alloc _).alloc _
  obtain ⟨W3, hW3⟩ : ∃ X, (((((w.alloc (.cells #[.slice ad n cap, .int .i64 (pr : Int)] 46)).alloc (.cells #[.int .i64 (row : Int)] 3)).alloc (.cells #[.int .u8 c] 5)).alloc (.cells #[.int .i64 0] 3)).alloc (.cells #[.slice ad n cap, .int .i64 (pr : Int)] 46)) = X := ⟨_, rfl⟩
  rw [hW3] at e1 e2 e3 e4 e5 hsz ⊢
  clear hW3
  have e6 : Rd8 W3 (.slice ad n cap) D := Rd.ext hR.out e5
  have hRd : Rd W3 1 (.slice ad n cap) n (bs D) := by have := e6; unfold Rd8 at this; rw [hne.out] at this; exact this
  have hlt : ∀ z ∈ ([s + 1 + 1 + 1 + 1] ++ dataS (.slice ad n cap) n), z < W3.heap.size := by
    intro z hz
    rcases List.mem_append.1 hz with hz | hz
    · simp at hz; omega
    · have h8 := dataS_lt (v := .slice ad n cap) (D := D) e6
      rw [hne.out] at h8
      exact h8 z hz
  have hnd : ∀ z ∈ ([s + 1 + 1 + 1 + 1] ++ dataS (.slice ad n cap) n), z ≠ s + 1 + 1 + 1 := by
    intro z hz
    rcases List.mem_append.1 hz with hz | hz
    · simp at hz; omega
    · have h8 := dataS_lt (v := .slice ad n cap) (D := D) hR.out
      rw [hne.out] at h8
      have := h8 z hz
      omega
  replace hsz := hidden hsz
  replace hs := hidden hs
  rename_i KK hKK
  refine (wpIn_wide (n := 6)).1 ?_
  refine wpIn_rangeFunc_ownG rfl (by omega) (gf := 59) (lb := #[.pointer (some ⟨s + 1 + 1 + 1 + 1, 0, none⟩)]) rfl trivial (enters_of Try.func59 (by kernel_rfl) rfl)
    (all_stops 5 (by omega) (s + 1 + 1 + 1 + 1) pr n cap ad D hne.out hn ([s + 1 + 1 + 1 + 1] ++ dataS (.slice ad n cap) n) (by simp) (fun hn g hg => by simp [dataS, hn, hg]) W3 hlt e4 hRd) keepz_t (keepz_b hlt) (Below.refl _ _) (fun _ => rfl)
    (fun pre W => (((Blk W (s + 1 + 1 + 1) 3 [.int .i64 (cpre D c pre : Int)] ∧ Blk W (s + 1) 3 [.int .i64 (row : Int)]) ∧ Blk W (s + 1 + 1) 5 [.int .u8 c]) ∧ (∀ y ∈ pre, rowI pr y.val < row)) ∧ Below w.heap.size w W)
    (fun cd pre W => LeftB D pr row c (s + 1 + 1 + 1) cd pre W ∧ Below w.heap.size w W)
    (OwnFrom.and (OwnFrom.and (OwnFrom.and (OwnFrom.and (Own.from (blk_own _ _ _) _) (Own.from (blk_own _ _ (fun _ => [.int .i64 (row : Int)])) _)) (Own.from (blk_own _ _ (fun _ => [.int .u8 c])) _)) (Own.from (all_own pr row) _)) (ownFrom_below (Nat.le_refl _) (by rw [hsz.out, hs.out]; omega)))
    (fun cd => OwnFrom.and (Own.from (leftB_own D pr row c _ cd) _) (ownFrom_below (Nat.le_refl _) (by rw [hsz.out, hs.out]; omega)))
    ⟨⟨⟨⟨e3, e1⟩, e2⟩, fun y hy => by cases hy⟩, e5⟩
    (fun x => { tmps := #[.agg #[.slice ad n cap, .int .i64 (pr : Int)], .int .i64 (row : Int), .int .u8 c, .pointer (some ⟨s, 0, none⟩), .pointer (some ⟨s + 1, 0, none⟩), .pointer (some ⟨s + 1 + 1, 0, none⟩), .int .i64 0, .pointer (some ⟨s + 1 + 1 + 1, 0, none⟩), .int .i64 (rowI pr x.val : Int), .int .u8 (D.getD x.val 0), .agg #[.slice ad n cap, .int .i64 (pr : Int)], .func (.func 59) #[] #[.pointer (some ⟨s + 1 + 1 + 1 + 1, 0, none⟩)], .int .i64 (rowI pr x.val : Int), .int .u8 (D.getD x.val 0), undef, undef, undef, undef, undef, undef, undef, undef, undef], defers := [] }) ?assign ?body ?done ?stop
  case assign =>
    intro l x W K hK
    unfold encA
    obtain ⟨y, hy⟩ : ∃ y, D.getD x.val 0 = y := ⟨_, rfl⟩
    obtain ⟨r, hr⟩ : ∃ r, rowI pr x.val = r := ⟨_, rfl⟩
    rw [hy, hr] at hK ⊢
    clear hy hr
    gi_wp2
    exact hK
  case body =>
    rintro l pre x W ⟨⟨⟨⟨b3, b1⟩, b2⟩, hA⟩, hB⟩ hlen
    have hx := x.isLt
    have hsn := cpre_snoc D c pre x
    have hcl := cpre_le D c pre
    have c3 := b3.cell 0 _ rfl
    have f3 := b3.frozen 0
    have c1 := b1.cell 0 _ rfl
    have c2 := b2.cell 0 _ rfl
    obtain ⟨r, hr⟩ : ∃ r, rowI pr x.val = r := ⟨_, rfl⟩
    obtain ⟨y, hy⟩ : ∃ y, D.getD x.val 0 = y := ⟨_, rfl⟩
    obtain ⟨q, hq⟩ : ∃ q, cpre D c pre = q := ⟨_, rfl⟩
    rw [hy, hq] at hsn
    rw [hq] at c3 b3 hcl
    rw [hy, hr]
    replace b1 := hidden b1
    replace b2 := hidden b2
    replace b3 := hidden b3
    replace hA := hidden hA
    replace hB := hidden hB
    have hq1 : q ≤ 1000 := by omega
    clear hlen
    by_cases hge : row ≤ r
    · have d1 : (row : Int) ≤ (r : Int) := by omega
      replace hsn := hidden hsn
      have hr' := hidden hr
      have hq' := hidden hq
      clear hr hq
      gi_wp2
      exact ⟨(KeepsOthers.refl _).from _, ⟨pre, x, rfl, hA.out, by rw [hr'.out]; exact hge, by rw [hq'.out]; exact b3.out, rfl⟩, hB.out⟩
    · have d1 : ¬ (row : Int) ≤ (r : Int) := by omega
      have hA2 : ∀ z ∈ pre ++ [x], rowI pr z.val < row := by
        intro z hz
        rcases List.mem_append.1 hz with hz | hz
        · exact hA.out z hz
        · simp at hz; subst hz; rw [hr]; omega
      replace hA2 := hidden hA2
      by_cases hyc : y = c
      · have v1 : IntKind.i64.wrap ((q : Int) + 1) = (q : Int) + 1 := IntWalk.i64_in _ (by omega)
        rw [if_pos hyc] at hsn
        have d2 : (y == c) = true := by simp [hyc]
        subst hyc
        have hn1 := (b3.out.set 0 (.int .i64 ((q : Int) + 1)))
        have hB1 := hB.out.setCell (p := ⟨s + 1 + 1 + 1, 0, none⟩) (show w.heap.size ≤ s + 1 + 1 + 1 by rw [hs.out]; omega) (.int .i64 ((q : Int) + 1))
        have hb1 := b1.out.set_other (i := 0) (c := s + 1 + 1 + 1) (by omega) (.int .i64 ((q : Int) + 1))
        have hb2 := b2.out.set_other (i := 0) (c := s + 1 + 1 + 1) (by omega) (.int .i64 ((q : Int) + 1))
        replace hsn := hidden hsn
        replace hn1 := hidden hn1
        replace hB1 := hidden hB1
        replace hb1 := hidden hb1
        replace hb2 := hidden hb2
        clear hr hq hy
        gi_wp2
        refine ⟨(KeepsOthers.setCell _ _ _).from _, ⟨fun z hz => Below.heap_setCell _ _ _ _ (fun e => hnd z hz (by simpa using e)), by simp⟩, ⟨⟨⟨?_, hb1.out⟩, hb2.out⟩, hA2.out⟩, hB1.out⟩
        rw [hsn.out]
        exact hn1.out
      · rw [if_neg hyc, Nat.add_zero] at hsn
        have d2 : (y == c) = false := by simp [hyc]
        replace hsn := hidden hsn
        replace hyc := hidden hyc
        clear hr hq hy
        gi_wp2
        refine ⟨(KeepsOthers.refl _).from _, ⟨KeepS.refl _ _, Nat.le_refl _⟩, ⟨⟨⟨?_, b1.out⟩, b2.out⟩, hA2.out⟩, hB.out⟩
        rw [hsn.out]
        exact b3.out
  case done =>
    rintro E ys W hD rfl ⟨⟨⟨⟨b3, b1⟩, b2⟩, hA⟩, hB⟩ hK
    have hcu : cpre D c (List.finRange n) = cntC D (rowN pr row) c := by
      rw [← upF_all, cpre_up D c hne.out n (Nat.le_refl _)]
      have := rowN_done hpr (fun i hi => hA ⟨i, hi⟩ (List.mem_finRange _))
      unfold cntC
      rw [List.take_of_length_le (by rw [hne.out]; omega), List.take_of_length_le (by rw [hne.out]; omega)]
    rw [hcu] at b3
    have c3 := b3.cell 0 _ rfl
    clear hcu b1 b2 hA
    go_wp2_with fail
    refine ⟨by simp, .inl ⟨_, _, rfl, run_takeDeferred hK, ?_⟩⟩
    refine ⟨.int .i64 (cntC D (rowN pr row) c : Int), by simp [results, Try.f32, go_sem], rfl, ?_⟩
    exact hB.trans (belowK_b (n₀ := w.heap.size) (w := w) (Nat.le_refl _) W E _ (.deferred none) (by rw [hsz.out] at hD; rw [hs.out]; omega) hK rfl rfl)
  case stop =>
    rintro E cd pre W hD ⟨k, hk, rfl⟩ ⟨⟨ini, x, h1, h2, h3, b3, rfl⟩, hB⟩ hK
    obtain ⟨rfl, hk2⟩ := up_snoc hk h1.symm
    have hst := rowN_stop (j := x.val) hpr (fun i hi => h2 ⟨i, by have := x.isLt; omega⟩ (mem_up (by have := x.isLt; omega) i hi)) h3
    rw [cpre_up D c hne.out x.val (by have := x.isLt; omega), ← hst] at b3
    have c3 := b3.cell 0 _ rfl
    clear h1 h2 h3 hst hk2
    refine wpIn_wide.2 ?_
    go_wp2_with fail
    refine ⟨by simp, .inl ⟨_, _, rfl, run_takeDeferred hK, ?_⟩⟩
    refine ⟨.int .i64 (cntC D (rowN pr row) c : Int), by simp [results, Try.f32, go_sem], rfl, ?_⟩
    exact hB.trans (belowK_b (n₀ := w.heap.size) (w := w) (Nat.le_refl _) W E _ (.deferred none) (by rw [hsz.out] at hD; rw [hs.out]; omega) hK rfl rfl)
end Go.Proofs.Ytfebgcbkadmgiaa
