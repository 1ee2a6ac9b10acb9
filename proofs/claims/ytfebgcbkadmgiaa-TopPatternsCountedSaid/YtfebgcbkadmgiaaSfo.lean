/- Layer 33: links: the walk. -/
import Derived.Test.YtfebgcbkadmgiaaSfn
namespace Go.Proofs.Ytfebgcbkadmgiaa
open Go.RowKit Go.Shelf
set_option linter.unusedVariables false
set_option linter.unusedSimpArgs false
attribute [local go_sem] Oper.semAt_some

def LinksP (w : World) (n : Nat) (l : List Int) (e : Ending) (w' : World) : Prop := ∃ g, e = .returned (.slice (some ⟨g, 0, none⟩) (n + 1) (n + 1)) ∧ Blk w' g 3 (iv l) ∧ w.heap.size ≤ g ∧ Ext w w'

set_option maxRecDepth 100000 in
set_option maxHeartbeats 4000000 in
theorem links_any (v : Value) (D : List Int) (pr n : Nat) (hb : Bytes D) (hne : D.length = n) (hn : n ≤ 1000) (hpr : pr ≤ n) (w : World) (hr : Rd8 w v D) :
    Calls Try.prog 57 #[.agg #[v, .int .i64 (pr : Int)]] w (LinksP w n (lkF (n := n) D pr (List.finRange n)).1) := by
  obtain ⟨ad, cap, rfl, q1, q2, q3⟩ := Rd.shape hr
  have hst := fun W (hW : Rd8 W (.slice ad n cap) D) => starts_any (.slice ad n cap) D (pr : Int) hb (by omega) W hW
  have hR : Hid (Rd8 w (.slice ad n cap) D) := hidden (by rw [← hne]; exact hr)
  rw [hne] at q1 ⊢
  have hmk := hidden (mk_ints ((n : Int) + 1) (n + 1) (by omega) (by omega))
  clear hr
  replace hb := hidden hb
  replace hne := hidden hne
  replace hst := hidden hst
  refine (callsIn_wide (n := 6)).1 ?_
  refine callsIn_of_wp_marks Try.func57 rfl trivial ?_ rfl
  simp only [Try.ntmps57, List.size_toArray, List.length_cons, List.length_nil, Nat.reduceAdd, Nat.reduceSub, Array.replicate_succ, Array.replicate_zero, List.push_toArray, List.append_toArray, List.nil_append, List.cons_append]
  refine wpIn_wide.2 ?_
  go_wp2_with fail
  refine (hst.out _ (Rd.alloc hR.out _)).mono ?_
  rintro e w1 ⟨rfl, hX1⟩
  have hX1' : Ext w w1 := hX1.past
  have hB1 := (Blk.new w [.slice ad n cap, .int .i64 (pr : Int)] 46).ext hX1
  obtain ⟨s, hs⟩ : ∃ s, w.heap.size = s := ⟨_, rfl⟩
  rw [hs] at hB1
  have hs1 : s < w1.heap.size := hB1.lt
  obtain ⟨ST, hST⟩ : ∃ x, (iv (stL D)).toArray = x := ⟨_, rfl⟩
  have hsz : ST.size = 256 := by rw [← hST, List.size_toArray, iv_len, stL_len]
  have hi55 : (Try.prog.info? 55).map (·.size) = some 256 := by kernel_rfl
  have h1c : ST.all (·.oneCell') = true := by rw [← hST]; simp [iv, Value.oneCell']
  have hz0 : (w1.alloc (.cells Try.zeroCells55 55)).heap[w1.heap.size]? = some (.cells Try.zeroCells55 55 (0, 0)) := heap_alloc_new w1 _
  have hzs : Try.zeroCells55.size = ST.size := by rw [hsz]; exact Try.zeroCells55_size
  have hX2 : Ext w1 ((w1.alloc (.cells Try.zeroCells55 55)).setRow w1.heap.size ST) := below_setRow ((Ext.refl w1).alloc _) (Nat.le_refl _) _
  have hG2 : Blk ((w1.alloc (.cells Try.zeroCells55 55)).setRow w1.heap.size ST) w1.heap.size 55 (iv (stL D)) := by
    unfold Blk
    rw [hST]
    exact setRow_heap _ w1.heap.size _ _ 55 _ hz0
  have hB2 := hB1.ext hX2
  have p0 := hB2.cell 0 _ rfl
  have p1 := hB2.cell 1 _ rfl
  have hss : ((w1.alloc (.cells Try.zeroCells55 55)).setRow w1.heap.size ST).heap.size = w1.heap.size + 1 := by rw [size_setRow, World.size_alloc]
  rw [← hs] at p0 p1
  have hm1 := hmk.out
  rw [hST]
  replace hsz := hidden hsz
  replace hs := hidden hs
  replace hST := hidden hST
  replace hG2 := hidden hG2
  replace hB2 := hidden hB2
  replace hX2 := hidden hX2
  replace hX1 := hidden hX1
  replace hX1' := hidden hX1'
  replace hB1 := hidden hB1
  go_upto_region 2 with (refine wpList_store_row rfl 55 (.tmp 3) (.tmp 8) rfl w1.heap.size ST rfl rfl 55 _ hz0 (by rw [hsz.out]; exact hi55) hzs h1c ?_)
  obtain ⟨W2, hW2⟩ : ∃ X, (w1.alloc (.cells Try.zeroCells55 55)).setRow w1.heap.size ST = X := ⟨_, rfl⟩
  rw [hW2] at hG2 hB2 hX2 p0 p1 hss ⊢
  clear hW2 hz0 hzs h1c hi55
  obtain ⟨g1, hg1⟩ : ∃ g, w1.heap.size = g := ⟨_, rfl⟩
  rw [hg1] at hG2 hss hs1 ⊢
  have hl1 : w.heap.size < g1 + 1 := by rw [hs.out]; omega
  have hl2 : w.heap.size ≤ g1 := by omega
  have hl3 : w.heap.size ≤ g1 + 1 := by omega
  have hl4 : w.heap.size < g1 + 1 + 1 := by omega
  replace hg1 := hidden hg1
  go_wp2_with (go_at_call 43; refine (all_any _ (pr : Int) _ ad n cap rfl).mono ?_; rintro e w2 ⟨rfl, rfl⟩)
  -- THE LOOP
  have hB3 : Blk W2 g1 55 (iv (lkF (n := n) D pr []).2) := hG2.out
  have hsz3 : (((W2.alloc (.cells (madeCells #[.int .i64 0] (n + 1)) 3)).alloc (.cells #[.slice (some ⟨g1 + 1, 0, none⟩) (n + 1) (n + 1)] 23)).alloc (.cells #[.slice ad n cap, .int .i64 (pr : Int)] 46)).heap.size = g1 + 1 + 1 + 1 + 1 := by rw [World.size_alloc, World.size_alloc, World.size_alloc, hss]
  have e1 := (hB3.alloc (.cells (madeCells #[.int .i64 0] (n + 1)) 3)).alloc (.cells #[.slice (some ⟨g1 + 1, 0, none⟩) (n + 1) (n + 1)] 23)
  have e1 := e1.alloc (.cells #[.slice ad n cap, .int .i64 (pr : Int)] 46)
  have e2 := ((blk_made W2 (n + 1) 3).alloc (.cells #[.slice (some ⟨g1 + 1, 0, none⟩) (n + 1) (n + 1)] 23)).alloc (.cells #[.slice ad n cap, .int .i64 (pr : Int)] 46)
  have e3 := (Blk.new (W2.alloc (.cells (madeCells #[.int .i64 0] (n + 1)) 3)) [.slice (some ⟨g1 + 1, 0, none⟩) (n + 1) (n + 1)] 23).alloc (.cells #[.slice ad n cap, .int .i64 (pr : Int)] 46)
  have e4 := Blk.new ((W2.alloc (.cells (madeCells #[.int .i64 0] (n + 1)) 3)).alloc (.cells #[.slice (some ⟨g1 + 1, 0, none⟩) (n + 1) (n + 1)] 23)) [.slice ad n cap, .int .i64 (pr : Int)] 46
  have e5 := (((hX1'.out.trans hX2.out).alloc (.cells (madeCells #[.int .i64 0] (n + 1)) 3)).alloc (.cells #[.slice (some ⟨g1 + 1, 0, none⟩) (n + 1) (n + 1)] 23)).alloc (.cells #[.slice ad n cap, .int .i64 (pr : Int)] 46)
  rw [hss] at e2
  rw [World.size_alloc, hss] at e3
  rw [World.size_alloc, World.size_alloc, hss] at e4
  have e6 : Rd8 (((W2.alloc (.cells (madeCells #[.int .i64 0] (n + 1)) 3)).alloc (.cells #[.slice (some ⟨g1 + 1, 0, none⟩) (n + 1) (n + 1)] 23)).alloc (.cells #[.slice ad n cap, .int .i64 (pr : Int)] 46)) (.slice ad n cap) D := Rd.ext hR.out e5
  change Blk (((W2.alloc (.cells (madeCells #[.int .i64 0] (n + 1)) 3)).alloc (.cells #[.slice (some ⟨g1 + 1, 0, none⟩) (n + 1) (n + 1)] 23)).alloc (.cells #[.slice ad n cap, .int .i64 (pr : Int)] 46)) (g1 + 1) 3 (iv (lkF (n := n) D pr []).1) at e2
  change Blk (((W2.alloc (.cells (madeCells #[.int .i64 0] (n + 1)) 3)).alloc (.cells #[.slice (some ⟨g1 + 1, 0, none⟩) (n + 1) (n + 1)] 23)).alloc (.cells #[.slice ad n cap, .int .i64 (pr : Int)] 46)) (g1 + 1 + 1) 23 [.slice (some ⟨g1 + 1, 0, none⟩) (n + 1) (n + 1)] at e3
  change Blk (((W2.alloc (.cells (madeCells #[.int .i64 0] (n + 1)) 3)).alloc (.cells #[.slice (some ⟨g1 + 1, 0, none⟩) (n + 1) (n + 1)] 23)).alloc (.cells #[.slice ad n cap, .int .i64 (pr : Int)] 46)) (g1 + 1 + 1 + 1) 46 [.slice ad n cap, .int .i64 (pr : Int)] at e4
  obtain ⟨W3, hW3⟩ : ∃ X, ((W2.alloc (.cells (madeCells #[.int .i64 0] (n + 1)) 3)).alloc (.cells #[.slice (some ⟨g1 + 1, 0, none⟩) (n + 1) (n + 1)] 23)).alloc (.cells #[.slice ad n cap, .int .i64 (pr : Int)] 46) = X := ⟨_, rfl⟩
  rw [hW3] at e1 e2 e3 e4 e5 e6 hsz3 ⊢
  clear hW3 p0 p1 hss hm1
  have hlt : ∀ z ∈ ([g1 + 1 + 1 + 1] ++ dataS (.slice ad n cap) n), z < W3.heap.size := by
    intro z hz
    rcases List.mem_append.1 hz with hz | hz
    · simp at hz; omega
    · have h8 := dataS_lt (v := .slice ad n cap) (D := D) e6
      rw [hne.out] at h8
      exact h8 z hz
  have hnd : ∀ z ∈ ([g1 + 1 + 1 + 1] ++ dataS (.slice ad n cap) n), z ≠ g1 ∧ z ≠ g1 + 1 := by
    intro z hz
    rcases List.mem_append.1 hz with hz | hz
    · simp at hz; omega
    · have h8 := dataS_lt (v := .slice ad n cap) (D := D) hR.out
      rw [hne.out] at h8
      have := h8 z hz
      omega
  have hRd : Rd W3 1 (.slice ad n cap) n (bs D) := by have := e6; unfold Rd8 at this; rw [hne.out] at this; exact this
  replace hsz3 := hidden hsz3
  replace hsz := hidden hsz
  refine (wpIn_wide (n := 6)).1 ?_
  refine wpIn_rangeFunc_ownG rfl (by omega) (gf := 59) (lb := #[.pointer (some ⟨g1 + 1 + 1 + 1, 0, none⟩)]) rfl trivial (enters_of Try.func59 (by kernel_rfl) rfl)
    (all_stops 5 (by omega) (g1 + 1 + 1 + 1) pr n cap ad D hne.out hn ([g1 + 1 + 1 + 1] ++ dataS (.slice ad n cap) n) (by simp) (fun hn g hg => by simp [dataS, hn, hg]) W3 hlt e4 hRd) keepz_t (keepz_b hlt) (Below.refl _ _) (fun _ => rfl)
    (fun pre W => ((Blk W g1 55 (iv (lkF (n := n) D pr pre).2) ∧ Blk W (g1 + 1) 3 (iv (lkF (n := n) D pr pre).1)) ∧ Blk W (g1 + 1 + 1) 23 [.slice (some ⟨g1 + 1, 0, none⟩) (n + 1) (n + 1)]) ∧ Below w.heap.size w W)
    (fun _ _ _ => False)
    (OwnFrom.and (OwnFrom.and (OwnFrom.and (Own.from (blk_own _ _ _) _) (Own.from (blk_own _ _ _) _)) (Own.from (blk_own _ _ (fun _ => [.slice (some ⟨g1 + 1, 0, none⟩) (n + 1) (n + 1)])) _)) (ownFrom_below (Nat.le_refl _) (by rw [hsz3.out]; omega)))
    (fun _ _ _ _ _ hs _ _ => hs)
    ⟨⟨⟨e1, e2⟩, e3⟩, e5⟩
    (fun x => { tmps := #[.agg #[.slice ad n cap, .int .i64 (pr : Int)], .pointer (some ⟨w.heap.size, 0, none⟩), .slice none 0 0, .pointer (some ⟨g1, 0, none⟩), .pointer (some ⟨g1 + 1 + 1, 0, none⟩), .int .i64 (rowI pr x.val : Int), .int .u8 (D.getD x.val 0), .agg #[.slice ad n cap, .int .i64 (pr : Int)], .agg ST, .pointer (some ⟨w.heap.size, 0, none⟩), .slice ad n cap, .int .i64 (n : Int), .int .i64 ((n : Int) + 1), .slice (some ⟨g1 + 1, 0, none⟩) (n + 1) (n + 1), .agg #[.slice ad n cap, .int .i64 (pr : Int)], .func (.func 59) #[] #[.pointer (some ⟨g1 + 1 + 1 + 1, 0, none⟩)], .int .i64 (rowI pr x.val : Int), .int .u8 (D.getD x.val 0), undef, undef, undef, undef, undef, undef, undef, undef, undef, undef, undef, undef], defers := [] }) ?assign ?body ?done ?stop
  case assign =>
    intro l x W K hK
    unfold encA
    obtain ⟨y, hy⟩ : ∃ y, D.getD x.val 0 = y := ⟨_, rfl⟩
    obtain ⟨r, hr⟩ : ∃ r, rowI pr x.val = r := ⟨_, rfl⟩
    rw [hy, hr] at hK ⊢
    clear hy hr
    gi_wp2
    exact hK
  case body =>
    rintro l pre x W ⟨⟨⟨hb1, hb2⟩, hb3⟩, hB⟩ hlen
    have hx := x.isLt
    obtain ⟨L1, L2⟩ := lkF_len D pr pre
    have hbd := lkF_bd D pr pre (D.getD x.val 0).toNat
    have hsn := lkF_snoc D pr pre x
    have hy := hb.out.get x.val (by rw [hne.out]; exact hx)
    obtain ⟨z, hz⟩ : ∃ z : Nat, D.getD x.val 0 = (z : Int) := ⟨_, (Int.eq_ofNat_of_zero_le hy.1).choose_spec⟩
    unfold lkS at hsn
    rw [hz, Int.toNat_natCast] at hsn hbd
    have hz2 : z < 256 := by omega
    obtain ⟨r, hr⟩ : ∃ r, rowI pr x.val = r := ⟨_, rfl⟩
    have hrn := rowI_le (pr := pr) hx
    rw [hr] at hsn hrn
    obtain ⟨q, hq⟩ : ∃ q, (lkF D pr pre).2.getD z 0 = q := ⟨_, rfl⟩
    rw [hq] at hsn hbd
    rw [hne.out] at hbd
    have cb : W.cell? ⟨g1 + 1 + 1, 0, none⟩ = some (.slice (some ⟨g1 + 1, 0, none⟩) (n + 1) (n + 1)) := hb3.cell 0 _ rfl
    have cq := hb1.cell z _ (iv_get _ z (by omega))
    rw [hq] at cq
    have co := hb2.cell r _ (iv_get _ r (by omega))
    have fo := hb2.frozen r
    have fq := hb1.frozen z
    have hb2' := hb2.set r (.int .i64 q)
    have hb1' := (hb1.set_other (i := r) (c := g1 + 1) (by omega) (.int .i64 q)).set z (.int .i64 (q + 1))
    have hb2'' := hb2'.set_other (i := z) (c := g1) (by omega) (.int .i64 (q + 1))
    have hb3'' := (hb3.set_other (i := r) (c := g1 + 1) (by omega) (.int .i64 q)).set_other (i := z) (c := g1) (by omega) (.int .i64 (q + 1))
    rw [iv_set] at hb1' hb2''
    have hBs := (hB.setCell (p := ⟨g1 + 1, r, none⟩) (show w.heap.size ≤ g1 + 1 by omega) (.int .i64 q)).setCell (p := ⟨g1, z, none⟩) (show w.heap.size ≤ g1 by omega) (.int .i64 (q + 1))
    have hS2 : (fun w' : World => (w'.cell? ⟨g1 + 1 + 1, 0, none⟩ = some (.slice (some ⟨g1 + 1, 0, none⟩) (n + 1) (n + 1)) ∧ w'.cell? ⟨g1, z, none⟩ = some (.int .i64 q)) ∧ (∃ u, w'.cell? ⟨g1 + 1, r, none⟩ = some (.int .i64 u)) ∧ w'.frozen? ⟨g1 + 1, r, none⟩ = false) (W.drew.setCell ⟨g1 + 1, r, none⟩ (.int .i64 q)) := ⟨⟨set_other (w := W.drew) (by simp) cb, set_other (w := W.drew) (by simp) cq⟩, ⟨_, set_same (w := W.drew) co⟩, by rw [World.frozen?_setCell]; exact fo⟩
    have cq2 : (W.drew.setCell ⟨g1 + 1, r, none⟩ (.int .i64 q)).cell? ⟨g1, z, none⟩ = some (.int .i64 q) := hS2.1.2
    have fq2 : (W.drew.setCell ⟨g1 + 1, r, none⟩ (.int .i64 q)).frozen? ⟨g1, z, none⟩ = false := by rw [World.frozen?_setCell]; exact fq
    have q0 := hbd.1
    have q1 : q ≤ 2001 := by omega
    have v1 : IntKind.i64.wrap (q + 1) = q + 1 := IntWalk.i64_in _ (by omega)
    have z1 : (z : Int) < 256 := by omega
    have r1 : (r : Int) < (n : Int) + 1 := by omega
    obtain ⟨old, hold⟩ : ∃ u, (lkF D pr pre).1.getD r 0 = u := ⟨_, rfl⟩
    rw [hold] at co
    rw [hz, hr]
    replace hsn := hidden hsn
    replace hb1' := hidden hb1'
    replace hb2'' := hidden hb2''
    replace hb3'' := hidden hb3''
    replace hBs := hidden hBs
    clear hb1 hb2 hb3 hb2' hB L1 L2 hbd hy hr hq hrn hold hz hz2 cq2 fq2
    gi_wp2
    rename_i KK hKK
    refine wpIn_round_held (fun w' : World => (w'.cell? ⟨g1 + 1 + 1, 0, none⟩ = some (.slice (some ⟨g1 + 1, 0, none⟩) (n + 1) (n + 1)) ∧ w'.cell? ⟨g1, z, none⟩ = some (.int .i64 q)) ∧ (∃ u, w'.cell? ⟨g1 + 1, r, none⟩ = some (.int .i64 u)) ∧ w'.frozen? ⟨g1 + 1, r, none⟩ = false) (by kernel_rfl) (fun ⟨_, _, h⟩ => (show False from h)) (by kernel_rfl) ?_
    have hS1 : (fun w' : World => (w'.cell? ⟨g1 + 1 + 1, 0, none⟩ = some (.slice (some ⟨g1 + 1, 0, none⟩) (n + 1) (n + 1)) ∧ w'.cell? ⟨g1, z, none⟩ = some (.int .i64 q)) ∧ (∃ u, w'.cell? ⟨g1 + 1, r, none⟩ = some (.int .i64 u)) ∧ w'.frozen? ⟨g1 + 1, r, none⟩ = false) W.drew := ⟨⟨cb, cq⟩, ⟨_, co⟩, fo⟩
    refine takeH 0 (.slice (some ⟨g1 + 1, 0, none⟩) (n + 1) (n + 1)) rfl rfl (by kernel_rfl) (by kernel_rfl) (by kernel_rfl) (fun _ _ _ h => h) (by rfl) (fun w' hw' => by obtain ⟨⟨s1, s2⟩, ⟨s0, s3⟩, s4⟩ := hw'; go_simp) hS1 ?_
    try simp only [List.setIfInBounds_toArray, List.set_cons_zero, List.set_cons_succ]
    refine takeH 1 (.int .i64 (r : Int)) rfl rfl (by kernel_rfl) (by kernel_rfl) (by kernel_rfl) (fun _ _ _ h => h) (by rfl) (fun w' hw' => by obtain ⟨⟨s1, s2⟩, ⟨s0, s3⟩, s4⟩ := hw'; go_simp) hS1 ?_
    try simp only [List.setIfInBounds_toArray, List.set_cons_zero, List.set_cons_succ]
    refine takeH 2 (.int .u8 (z : Int)) rfl rfl (by kernel_rfl) (by kernel_rfl) (by kernel_rfl) (fun _ _ _ h => h) (by rfl) (fun w' hw' => by obtain ⟨⟨s1, s2⟩, ⟨s0, s3⟩, s4⟩ := hw'; go_simp) hS1 ?_
    try simp only [List.setIfInBounds_toArray, List.set_cons_zero, List.set_cons_succ]
    refine takeH 3 (.pointer (some ⟨g1, z, none⟩)) rfl rfl (by kernel_rfl) (by kernel_rfl) (by kernel_rfl) (fun _ _ _ h => h) (by rfl) (fun w' hw' => by obtain ⟨⟨s1, s2⟩, ⟨s0, s3⟩, s4⟩ := hw'; go_simp) hS1 ?_
    try simp only [List.setIfInBounds_toArray, List.set_cons_zero, List.set_cons_succ]
    refine takeH 4 (.int .i64 q) rfl rfl (by kernel_rfl) (by kernel_rfl) (by kernel_rfl) (fun _ _ _ h => h) (by rfl) (fun w' hw' => by obtain ⟨⟨s1, s2⟩, ⟨s0, s3⟩, s4⟩ := hw'; go_simp) hS1 ?_
    try simp only [List.setIfInBounds_toArray, List.set_cons_zero, List.set_cons_succ]
    refine takeH 5 (.pointer (some ⟨g1 + 1, r, none⟩)) rfl rfl (by kernel_rfl) (by kernel_rfl) (by kernel_rfl) (fun _ _ _ h => h) (by rfl) (fun w' hw' => by obtain ⟨⟨s1, s2⟩, ⟨s0, s3⟩, s4⟩ := hw'; go_simp) hS1 ?_
    try simp only [List.setIfInBounds_toArray, List.set_cons_zero, List.set_cons_succ]
    refine storeH 6 rfl rfl (by kernel_rfl) (by rfl) (w' := W.drew.setCell ⟨g1 + 1, r, none⟩ (.int .i64 q)) (by obtain ⟨⟨s1, s2⟩, ⟨s0, s3⟩, s4⟩ := hS1; go_simp) hS2 ?_
    try simp only [List.setIfInBounds_toArray, List.set_cons_zero, List.set_cons_succ]
    refine wpAnyH_done (by kernel_rfl) ?_ _
    refine hKK _ _ ?_
    clear cb co fo hS1 hS2
    gi_wp2
    refine ⟨(((KeepsOthers.setCell _ _ _).trans (KeepsOthers.setCell _ _ _)).trans (KeepsOthers.drew _)).from _, ⟨fun y hy => ?_, by simp⟩, ⟨⟨?_, ?_⟩, hb3''.out⟩, hBs.out.drew⟩
    · have := hnd y hy
      exact (Below.heap_setCell _ _ _ _ (fun e => this.1 (by simpa using e))).trans (Below.heap_setCell _ _ _ _ (fun e => this.2 (by simpa using e)))
    · rw [hsn.out]; exact hb1'.out
    · rw [hsn.out]; exact hb2''.out
  case done =>
    rintro E ys W hD rfl ⟨⟨⟨hb1, hb2⟩, hb3⟩, hB⟩ hK
    have cb : W.cell? ⟨g1 + 1 + 1, 0, none⟩ = some (.slice (some ⟨g1 + 1, 0, none⟩) (n + 1) (n + 1)) := hb3.cell 0 _ rfl
    go_wp2_with fail
    trace_state
    refine ⟨by simp, .inl ⟨_, _, rfl, run_takeDeferred hK, ?_⟩⟩
    refine ⟨.slice (some ⟨g1 + 1, 0, none⟩) (n + 1) (n + 1), ?_, g1 + 1, rfl, ?_, by show w.heap.size ≤ g1 + 1; omega, ?_⟩
    · simp [results, Try.f57, go_sem]
    · unfold Blk
      rw [World.putObj_heap_other (fun e => by rw [hsz3.out] at hD; omega)]
      exact hb2
    · exact hB.trans (belowK_b (n₀ := w.heap.size) (w := w) (Nat.le_refl _) W E _ (.deferred none) (by rw [hsz3.out] at hD; omega) hK rfl rfl)
  case stop =>
    rintro D c pre W _ _ h _
    exact h.elim
end Go.Proofs.Ytfebgcbkadmgiaa
