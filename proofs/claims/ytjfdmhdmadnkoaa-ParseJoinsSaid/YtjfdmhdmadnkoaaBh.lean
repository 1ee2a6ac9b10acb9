/- The program's Read. -/
import Derived.Test.YtjfdmhdmadnkoaaBg
namespace Go.Proofs.Ytjfdmhdmadnkoaa
open Go.RowKit Go.Shelf
set_option linter.unusedVariables false
attribute [local go_sem] Oper.semAt_some

theorem chk_nn {D : List Int} {c : Int} : True := trivial
/-- What is read. -/
def rdF (D : List Int) (c a n : Int) : Int × Int :=
  if chkb D c ≠ 0 then (chkb D c, 0) else if n < 0 ∨ 32 < n ∨ a < 0 then (2, 0) else if c - n < a then (9, 0) else (0, num (cut D a.toNat n.toNat))
def RdPost (w : World) (r : Int × Int) (x : Ending) (w' : World) : Prop := x = .returned (.tuple #[.int .u32 r.2, .int .i64 r.1]) ∧ Ext w w'
theorem cut_num_bd (D : List Int) (a n : Nat) (h : n ≤ 32) : 0 ≤ num (cut D a n) ∧ num (cut D a n) ≤ 4294967295 := by
  have h1 := num_bd (cut_01 D a n)
  rw [cut_len] at h1
  have h2 : (2 : Int) ^ n ≤ 2 ^ 32 := by
    have := Nat.pow_le_pow_right (show 0 < 2 by decide) h
    have h3 : ((2 ^ n : Nat) : Int) ≤ ((2 ^ 32 : Nat) : Int) := Int.ofNat_le.mpr this
    simpa using h3
  omega

theorem places_stops (n : Nat) (hn : 2 ≤ n) (E0 E1 E2 q x y : Nat) (v c : Value) (D : List Int) (hb : Bytes D) (hy1 : y ≤ 8 * D.length) (hl : D.length ≤ 65536) (S : List Nat) (hS0 : E0 ∈ S) (hS1 : E1 ∈ S) (hS2 : E2 ∈ S) (hSq : q ∈ S) (hSv : 0 < D.length → ∀ g, v.ownBlock = some g → g ∈ S)
    (w : World) (hlt : ∀ z ∈ S, z < w.heap.size) (b0 : Blk w E0 111 [.pointer (some ⟨q, 0, none⟩)]) (b1 : Blk w E1 3 [.int .i64 (x : Int)]) (b2 : Blk w E2 3 [.int .i64 (y : Int)]) (bq : Blk w q 113 [v, c]) (hR : Rd8 w v D) :
    SeqStopsK Fence.wide n Try.prog 76 #[.pointer (some ⟨E1, 0, none⟩), .pointer (some ⟨E2, 0, none⟩), .pointer (some ⟨E0, 0, none⟩)] (fun z : Bool => #[.bool z]) (fun A B => KeepS S A B ∧ A.heap.size ≤ B.heap.size) (fun ys => ys = bo D x (y - x)) (fun pre => ∃ k, k ≤ y - x ∧ pre = bo D x k) (y - x) w :=
  fun l J Jx W hW hJ hJx hY h0 =>
    have hE : Ext w W := hW
    places1_in n hn l E0 E1 E2 q x y v c D hb hy1 hl S hS0 hS1 hS2 hSq hSv J Jx W hJ (fun z hz => Nat.lt_of_lt_of_le (hlt z hz) hE.size) hY (b0.ext hE) (b1.ext hE) (b2.ext hE) (bq.ext hE) (Rd.ext hR hE) h0
theorem Blk.newAt (w : World) (cs : List Value) (t : TypeId) (k : Nat) (h : w.heap.size = k) : Blk (w.alloc (.cells cs.toArray t)) k t cs := by subst h; exact Blk.new w cs t
/-- The block of a slice that holds some. -/
def dataS (v : Value) (n : Nat) : List Nat := if 0 < n then v.ownBlock.toList else []
theorem dataS_lt {w : World} {v : Value} {D : List Int} (h : Rd8 w v D) : ∀ x ∈ dataS v D.length, x < w.heap.size := by
  intro x hx
  unfold dataS at hx
  split at hx
  · next hn =>
    obtain ⟨_, a', cap', rfl, _, _, _, h6⟩ := h
    obtain ⟨b', off', rfl, hb, -⟩ := h6 hn
    simp [Value.ownBlock] at hx
    omega
  · cases hx
theorem keepz_t {S : List Nat} {A B C : World} (h : KeepS S A B ∧ A.heap.size ≤ B.heap.size) (k : KeepS S B C ∧ B.heap.size ≤ C.heap.size) : KeepS S A C ∧ A.heap.size ≤ C.heap.size := ⟨h.1.trans k.1, by omega⟩
theorem keepz_b {S : List Nat} {w : World} (hS : ∀ x ∈ S, x < w.heap.size) (W : World) (l : Nat) (o o' : Obj) (hl : w.heap.size ≤ l) (h1 : W.heap[l]? = some o) (h2 : o.isCells = false) (h3 : o.isWalk = false) : KeepS S W (W.putObj l o') ∧ W.heap.size ≤ (W.putObj l o').heap.size :=
  ⟨keepS_b hS W l o o' hl h1 h2 h3, by simp⟩

set_option maxRecDepth 100000 in
set_option maxHeartbeats 4000000 in
theorem read_good (v : Value) (D : List Int) (c a n : Nat) (hb : Bytes D) (hwf : WF D c) (hc : c ≤ 524288) (hn : n ≤ 32) (han : a + n ≤ c) (w : World) (h : Rd8 w v D) :
    Calls Try.prog 68 #[.agg #[v, .int .i64 (c : Int)], .int .i64 (a : Int), .int .i64 (n : Int)] w (RdPost w (0, num (cut D a n))) := by
  have hk := hidden (wf_chkb hwf hc)
  have hlen := hwf.len
  have hl : D.length ≤ 65536 := by omega
  have hy8 : a + n ≤ 8 * D.length := by omega
  obtain ⟨ad, cap, rfl, q1, q2, q3⟩ := Rd.shape h
  have k1 : ¬ (n : Int) < 0 := by omega
  have k2 : ¬ 32 < (n : Int) := by omega
  have k3 : ¬ (a : Int) < 0 := by omega
  have k4 : ¬ (c : Int) - (n : Int) < (a : Int) := by omega
  have W0B := Blk.new w [.slice ad D.length cap, .int .i64 (c : Int)] 91
  have W0R : Rd8 (w.alloc (.cells #[.slice ad D.length cap, .int .i64 (c : Int)] 91)) (.slice ad D.length cap) D := Rd.alloc h _
  have W0E : Ext w (w.alloc (.cells #[.slice ad D.length cap, .int .i64 (c : Int)] 91)) := (Ext.refl w).alloc _
  have p0 := W0B.cell 0 _ rfl
  have p1 := W0B.cell 1 _ rfl
  have k5 : decide ((n : Int) < 0) = false := by simp
  have k6 : decide (32 < (n : Int)) = false := by simp; omega
  have k7 : decide ((a : Int) < 0) = false := by simp
  have k8 : decide ((c : Int) - (n : Int) < (a : Int)) = false := by simp; omega
  clear hlen
  refine (callsIn_wide (n := 6)).1 ?_
  refine callsIn_of_wp_marks Try.func68 rfl trivial ?_ rfl
  simp only [Try.ntmps68, List.size_toArray, List.length_cons, List.length_nil, Nat.reduceAdd, Nat.reduceSub, Array.replicate_succ, Array.replicate_zero, List.push_toArray, List.append_toArray, List.nil_append, List.cons_append]
  gi_wp2_with (first | (refine ⟨trivial, ?_⟩; gi_at_call 73; refine (callsIn_wide.2 (check_any _ D (c : Int) hb (by omega) (by omega) (by omega) _ W0R)).mono ?_; rw [hk.out]; rintro e w1 ⟨rfl, g1⟩; have pb0 := (W0B.ext g1).cell 0 _ rfl; have pb1 := (W0B.ext g1).cell 1 _ rfl) | (refine ⟨trivial, ?_⟩; gi_at_call 74; refine (callsIn_wide.2 (places_in _ _ _ _)).mono ?_; rintro e w2 ⟨rfl, rfl⟩))
  have hs1 := g1.size
  simp at hs1
  have bq : Blk (w1.alloc (.cells #[.slice ad D.length cap, .int .i64 (c : Int)] 113)) w1.heap.size 113 [.slice ad D.length cap, .int .i64 (c : Int)] := Blk.new w1 [.slice ad D.length cap, .int .i64 (c : Int)] 113
  have bn : Blk ((w1.alloc (.cells #[.slice ad D.length cap, .int .i64 (c : Int)] 113)).alloc (.cells #[.int .u32 0] 103)) (w1.heap.size + 1) 103 [.int .u32 0] := Blk.newAt _ [.int .u32 0] _ _ (by simp)
  have b0 : Blk (((w1.alloc (.cells #[.slice ad D.length cap, .int .i64 (c : Int)] 113)).alloc (.cells #[.int .u32 0] 103)).alloc (.cells #[.pointer (some ⟨w1.heap.size, 0, none⟩)] 111)) (w1.heap.size + 2) 111 [.pointer (some ⟨w1.heap.size, 0, none⟩)] := Blk.newAt _ [.pointer (some ⟨w1.heap.size, 0, none⟩)] _ _ (by simp)
  have b1 : Blk ((((w1.alloc (.cells #[.slice ad D.length cap, .int .i64 (c : Int)] 113)).alloc (.cells #[.int .u32 0] 103)).alloc (.cells #[.pointer (some ⟨w1.heap.size, 0, none⟩)] 111)).alloc (.cells #[.int .i64 (a : Int)] 3)) (w1.heap.size + 3) 3 [.int .i64 (a : Int)] := Blk.newAt _ [.int .i64 (a : Int)] _ _ (by simp)
  have b2 : Blk (((((w1.alloc (.cells #[.slice ad D.length cap, .int .i64 (c : Int)] 113)).alloc (.cells #[.int .u32 0] 103)).alloc (.cells #[.pointer (some ⟨w1.heap.size, 0, none⟩)] 111)).alloc (.cells #[.int .i64 (a : Int)] 3)).alloc (.cells #[.int .i64 ((a : Int) + (n : Int))] 3)) (w1.heap.size + 4) 3 [.int .i64 ((a + n : Nat) : Int)] := by
    have h := Blk.newAt ((((w1.alloc (.cells #[.slice ad D.length cap, .int .i64 (c : Int)] 113)).alloc (.cells #[.int .u32 0] 103)).alloc (.cells #[.pointer (some ⟨w1.heap.size, 0, none⟩)] 111)).alloc (.cells #[.int .i64 (a : Int)] 3)) [.int .i64 ((a : Int) + (n : Int))] 3 (w1.heap.size + 4) (by simp)
    rw [Int.natCast_add]
    exact h
  have hR2 : Rd8 (((((w1.alloc (.cells #[.slice ad D.length cap, .int .i64 (c : Int)] 113)).alloc (.cells #[.int .u32 0] 103)).alloc (.cells #[.pointer (some ⟨w1.heap.size, 0, none⟩)] 111)).alloc (.cells #[.int .i64 (a : Int)] 3)).alloc (.cells #[.int .i64 ((a : Int) + (n : Int))] 3)) (.slice ad D.length cap) D := Rd.alloc (Rd.alloc (Rd.alloc (Rd.alloc (Rd.alloc (Rd.ext W0R g1) _) _) _) _) _
  have hEW : Ext w (((((w1.alloc (.cells #[.slice ad D.length cap, .int .i64 (c : Int)] 113)).alloc (.cells #[.int .u32 0] 103)).alloc (.cells #[.pointer (some ⟨w1.heap.size, 0, none⟩)] 111)).alloc (.cells #[.int .i64 (a : Int)] 3)).alloc (.cells #[.int .i64 ((a : Int) + (n : Int))] 3)) := (((((W0E.trans g1).alloc _).alloc _).alloc _).alloc _).alloc _
  have bq := (((bq.alloc (.cells #[.int .u32 0] 103)).alloc (.cells #[.pointer (some ⟨w1.heap.size, 0, none⟩)] 111)).alloc (.cells #[.int .i64 (a : Int)] 3)).alloc (.cells #[.int .i64 ((a : Int) + (n : Int))] 3)
  have bn := ((bn.alloc (.cells #[.pointer (some ⟨w1.heap.size, 0, none⟩)] 111)).alloc (.cells #[.int .i64 (a : Int)] 3)).alloc (.cells #[.int .i64 ((a : Int) + (n : Int))] 3)
  have b0 := (b0.alloc (.cells #[.int .i64 (a : Int)] 3)).alloc (.cells #[.int .i64 ((a : Int) + (n : Int))] 3)
  have b1 := b1.alloc (.cells #[.int .i64 ((a : Int) + (n : Int))] 3)
  obtain ⟨W2, hW2⟩ : ∃ W, (((((w1.alloc (.cells #[.slice ad D.length cap, .int .i64 (c : Int)] 113)).alloc (.cells #[.int .u32 0] 103)).alloc (.cells #[.pointer (some ⟨w1.heap.size, 0, none⟩)] 111)).alloc (.cells #[.int .i64 (a : Int)] 3)).alloc (.cells #[.int .i64 ((a : Int) + (n : Int))] 3)) = W := ⟨_, rfl⟩
  have hsz2 : W2.heap.size = w1.heap.size + 5 := by rw [← hW2]; simp
  rw [hW2] at bq bn b0 b1 b2 hR2 hEW
  rw [hW2]
  clear hW2 pb0 pb1 p0 p1 W0B W0R
  have hlt : ∀ z ∈ ([w1.heap.size, w1.heap.size + 2, w1.heap.size + 3, w1.heap.size + 4] ++ dataS (.slice ad D.length cap) D.length), z < W2.heap.size := by
    intro z hz
    rcases List.mem_append.1 hz with hz | hz
    · simp at hz; omega
    · exact dataS_lt hR2 z hz
  have hnd : ∀ z ∈ ([w1.heap.size, w1.heap.size + 2, w1.heap.size + 3, w1.heap.size + 4] ++ dataS (.slice ad D.length cap) D.length), z ≠ w1.heap.size + 1 := by
    intro z hz
    rcases List.mem_append.1 hz with hz | hz
    · simp at hz; omega
    · have := dataS_lt h z hz
      omega
  have hsz2 := hidden hsz2
  refine wpIn_rangeFunc_ownG rfl (by omega) (gf := 76) (lb := #[.pointer (some ⟨w1.heap.size + 3, 0, none⟩), .pointer (some ⟨w1.heap.size + 4, 0, none⟩), .pointer (some ⟨w1.heap.size + 2, 0, none⟩)]) rfl trivial (enters_of Try.func76 (by kernel_rfl) rfl)
    (places_stops 5 (by omega) (w1.heap.size + 2) (w1.heap.size + 3) (w1.heap.size + 4) w1.heap.size a (a + n) (.slice ad D.length cap) (.int .i64 (c : Int)) D hb hy8 hl ([w1.heap.size, w1.heap.size + 2, w1.heap.size + 3, w1.heap.size + 4] ++ dataS (.slice ad D.length cap) D.length) (by simp) (by simp) (by simp) (by simp) (fun hn g hg => by simp [dataS, hn, hg]) W2 hlt b0 b1 b2 bq hR2) keepz_t (keepz_b hlt) (Below.refl _ _) (fun _ => rfl)
    (fun pre W => Boxed W (w1.heap.size + 1) 103 (.int .u32 (num (pre.map b2i))) ∧ Below w.heap.size w W)
    (fun _ _ _ => False)
    (OwnFrom.and (Own.from (boxed_own _ _ _) _) (ownFrom_below (Nat.le_refl _) (by rw [hsz2.out]; omega)))
    (fun _ _ _ _ _ hs _ _ => hs)
    ⟨bn, hEW⟩
    (fun x => { tmps := #[Value.agg #[Value.slice ad D.length cap, Value.int IntKind.i64 (c : Int)], Value.int IntKind.i64 (a : Int), Value.int IntKind.i64 (n : Int), Value.pointer (some { block := w.heap.size, off := 0 }), undef, undef, Value.int IntKind.u32 0, Value.int IntKind.i64 0, Value.int IntKind.i64 0, Value.pointer (some { block := w1.heap.size, off := 0 }), Value.pointer (some { block := w1.heap.size + 1, off := 0 }), Value.bool x, Value.agg #[Value.slice ad D.length cap, Value.int IntKind.i64 (c : Int)], Value.int IntKind.i64 0, Value.bool false, Value.int IntKind.i64 0, Value.bool false, undef, Value.bool false, Value.int IntKind.i64 (n : Int), Value.bool false, Value.bool false, Value.int IntKind.i64 (n : Int), Value.bool false, Value.bool false, Value.bool false, Value.int IntKind.i64 (a : Int), Value.bool false, Value.bool false, Value.bool false, Value.int IntKind.i64 (a : Int), Value.pointer (some { block := w.heap.size, off := 1 }), Value.int IntKind.i64 (c : Int), Value.int IntKind.i64 (n : Int), Value.int IntKind.i64 ((c : Int) - (n : Int)), Value.bool false, Value.agg #[Value.slice ad D.length cap, Value.int IntKind.i64 (c : Int)], Value.agg #[Value.slice ad D.length cap, Value.int IntKind.i64 (c : Int)], Value.pointer (some { block := w1.heap.size, off := 0 }), Value.pointer (some { block := w1.heap.size, off := 0 }), Value.int IntKind.i64 (a : Int), Value.int IntKind.i64 (a : Int), Value.int IntKind.i64 (n : Int), Value.int IntKind.i64 ((a : Int) + (n : Int)), Value.func (Fn.func 76) #[] #[.pointer (some ⟨w1.heap.size + 3, 0, none⟩), .pointer (some ⟨w1.heap.size + 4, 0, none⟩), .pointer (some ⟨w1.heap.size + 2, 0, none⟩)], Value.bool x, undef, undef, undef, undef, undef, undef], defers := [] }) ?assign ?body ?done ?stop
  case assign =>
    intro l x W K hK
    gi_wp2
    exact hK
  case body =>
    rintro l pre x W ⟨hX, hB⟩ hlen
    have hb01 : Bits01 (pre.map b2i) := by intro z hz; obtain ⟨y, _, rfl⟩ := List.mem_map.1 hz; exact b2i_01 y
    have hnb := num_bd hb01
    rw [List.length_map] at hnb
    have hp : (2 : Int) ^ pre.length ≤ 2 ^ 31 := by
      have := Nat.pow_le_pow_right (show 0 < 2 by decide) (show pre.length ≤ 31 by omega)
      have h3 : ((2 ^ pre.length : Nat) : Int) ≤ ((2 ^ 31 : Nat) : Int) := Int.ofNat_le.mpr this
      simpa using h3
    have hsn : num ((pre ++ [x]).map b2i) = num (pre.map b2i) * 2 + b2i x := by rw [List.map_append, List.map_singleton, num_snoc]
    obtain ⟨N, hN⟩ : ∃ N, num (pre.map b2i) = N := ⟨_, rfl⟩
    rw [hN] at hX hnb hsn
    obtain ⟨n0, n1⟩ := hnb
    have n2 : N ≤ 2147483647 := by omega
    clear hN n1 hp
    have hsn := hidden hsn
    have hc := hX.cell
    have hf := hX.frozen
    have hk1 := KeepsOthers.refl W
    have hBs := hB.setCell (p := ⟨w1.heap.size + 1, 0, none⟩) (show w.heap.size ≤ w1.heap.size + 1 by omega) (.int .u32 (N * 2))
    cases x
    · gi_wp2
      exact ⟨(KeepsOthers.setCell _ _ _).from _, ⟨fun z hz => Below.heap_setCell _ _ _ _ (hnd z hz), by simp⟩, by rw [hsn.out]; simpa [b2i] using hX.set (.int .u32 (N * 2)), hBs⟩
    · gi_wp2
      exact ⟨((KeepsOthers.setCell _ _ _).trans (KeepsOthers.setCell _ _ _)).from _, ⟨fun z hz => (Below.heap_setCell _ _ _ _ (hnd z hz)).trans (Below.heap_setCell _ _ _ _ (hnd z hz)), by simp⟩, by rw [hsn.out]; exact (hX.set _).set _, hBs.setCell (p := ⟨w1.heap.size + 1, 0, none⟩) (show w.heap.size ≤ w1.heap.size + 1 by omega) _⟩
  case done =>
    rintro E ys W hD rfl ⟨hX, hB⟩ hK
    have hc1 := hX.cell
    rw [bo_cut, show a + n - a = n by omega] at hc1
    gi_wp2
    refine ⟨by simp, .inl ⟨_, _, rfl, run_takeDeferred hK, ?_⟩⟩
    refine ⟨.tuple #[.int .u32 (num (cut D a n)), .int .i64 0], ?_, rfl, ?_⟩
    · simp [results, Try.f68, go_sem]
    · have hb := belowK_b (n₀ := w.heap.size) (w := w) (Nat.le_refl _) W E _ (.deferred none) (by rw [hsz2.out] at hD; omega) hK rfl rfl
      exact hB.trans hb
  case stop =>
    rintro D c pre W _ _ h _
    exact h.elim
end Go.Proofs.Ytjfdmhdmadnkoaa
