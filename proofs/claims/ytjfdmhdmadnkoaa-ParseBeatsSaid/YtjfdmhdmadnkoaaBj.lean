/- The program's ReadGamma. -/
import Derived.Test.YtjfdmhdmadnkoaaBi
namespace Go.Proofs.Ytjfdmhdmadnkoaa
open Go.RowKit Go.Shelf
set_option linter.unusedVariables false
attribute [local go_sem] Oper.semAt_some

/-- How many zeros stand from a place on, within m bits. -/
def zr (D : List Int) : Nat → Nat → Nat
  | a, 0 => 0
  | a, m + 1 => if gb D a = 1 then 0 else zr D (a + 1) m + 1
theorem zr_is (D : List Int) (m a z : Nat) (h1 : z ≤ m) (h2 : ∀ j, j < z → gb D (a + j) = 0) (h3 : z < m → gb D (a + z) = 1) : zr D a m = z := by
  induction m generalizing a z with
  | zero => simp [zr]; omega
  | succ m ih =>
    unfold zr
    cases z with
    | zero => rw [if_pos (by have := h3 (by omega); rwa [Nat.add_zero] at this)]
    | succ z =>
      have h0 := h2 0 (by omega)
      rw [Nat.add_zero] at h0
      rw [if_neg (by rw [h0]; decide), ih (a + 1) z (by omega) (fun j hj => by have := h2 (j + 1) (by omega); rwa [show a + (j + 1) = a + 1 + j by omega] at this) (fun hz => by have := h3 (by omega); rwa [show a + (z + 1) = a + 1 + z by omega] at this)]
theorem zr_spec (D : List Int) (m a : Nat) : zr D a m ≤ m ∧ (∀ j, j < zr D a m → gb D (a + j) = 0) ∧ (zr D a m < m → gb D (a + zr D a m) = 1) := by
  induction m generalizing a with
  | zero => simp [zr]
  | succ m ih =>
    unfold zr
    split
    · next h => exact ⟨by omega, (fun j hj => by omega), fun _ => h⟩
    · next h =>
      obtain ⟨i1, i2, i3⟩ := ih (a + 1)
      refine ⟨by omega, fun j hj => ?_, fun hz => ?_⟩
      · cases j with
        | zero => rcases gb_01 D a with h' | h'; exact h'; exact absurd h' h
        | succ j => have := i2 j (by omega); rwa [show a + (j + 1) = a + 1 + j by omega]
      · have := i3 (by omega); rwa [show a + (zr D (a + 1) m + 1) = a + 1 + zr D (a + 1) m by omega]
/-- What ReadGamma leaves. -/
def rgF (D : List Int) (c a : Int) : Int × Int × Int :=
  if chkb D c ≠ 0 then (chkb D c, 0, 0) else if a < 0 then (2, 0, 0)
  else if c ≤ a + (zr D a.toNat (c.toNat - a.toNat) : Int) then (9, 0, 0)
  else if 30 < zr D a.toNat (c.toNat - a.toNat) then (2, 0, 0)
  else if c < a + 2 * (zr D a.toNat (c.toNat - a.toNat) : Int) + 1 then (9, 0, 0)
  else (0, num (cut D (a.toNat + zr D a.toNat (c.toNat - a.toNat)) (zr D a.toNat (c.toNat - a.toNat) + 1)), a + 2 * (zr D a.toNat (c.toNat - a.toNat) : Int) + 1)
def RgPost (w : World) (r : Int × Int × Int) (x : Ending) (w' : World) : Prop := x = .returned (.tuple #[.int .i64 r.2.1, .int .i64 r.2.2, .int .i64 r.1]) ∧ Ext w w'
theorem bo_split (D : List Int) (a k : Nat) (ini : List Bool) (h : bo D a k = ini ++ [true]) (hi : ∀ b ∈ ini, b = false) : k = ini.length + 1 ∧ (∀ j, j < ini.length → gb D (a + j) = 0) ∧ gb D (a + ini.length) = 1 := by
  have hl := congrArg List.length h
  rw [bo_len, List.length_append, List.length_singleton] at hl
  have key : ∀ j, j < k → (bo D a k)[j]? = some (decide (gb D (a + j) = 1)) := by
    intro j hj
    simp [bo, hj]
  refine ⟨hl, fun j hj => ?_, ?_⟩
  · have h1 := key j (by omega)
    rw [h, List.getElem?_append_left hj] at h1
    have h2 := hi ini[j] (List.getElem_mem hj)
    rw [List.getElem?_eq_getElem hj, h2] at h1
    simp at h1
    rcases gb_01 D (a + j) with h' | h'
    · exact h'
    · exact absurd h' h1
  · have h1 := key ini.length (by omega)
    rw [h, List.getElem?_append_right (by omega)] at h1
    simp at h1
    exact h1
theorem bo_all (D : List Int) (a k : Nat) (hi : ∀ b ∈ bo D a k, b = false) : ∀ j, j < k → gb D (a + j) = 0 := by
  intro j hj
  have h1 : (bo D a k)[j]? = some (decide (gb D (a + j) = 1)) := by simp [bo, hj]
  have h2 := hi _ (List.mem_of_getElem? h1)
  simp at h2
  rcases gb_01 D (a + j) with h' | h'
  · exact h'
  · exact absurd h' h2

/-- The loop was left at a one: its place is known. -/
def LeftAt (B : Nat) (cd : Code) (pre : List Bool) (W : World) : Prop := ∃ ini : List Bool, pre = ini ++ [true] ∧ (∀ b ∈ ini, b = false) ∧ Boxed W B 3 (.int .i64 (ini.length : Int)) ∧ cd = .exit 0
theorem leftAt_own (B : Nat) (cd : Code) : Own (LeftAt B cd) := fun s X Y row hs hg hrow => by
  obtain ⟨ini, h1, h2, h3, h4⟩ := hs
  exact ⟨ini, h1, h2, boxed_own (β := Unit) B 3 (fun _ => .int .i64 (ini.length : Int)) () X Y row h3 hg hrow, h4⟩
theorem blk_own {β : Type} (B : Nat) (t : TypeId) (cs : List Value) : Own (fun (_ : β) W => Blk W B t cs) := fun s X Y row hs hg hrow => by
  have hs' : X.heap[B]? = some (.cells cs.toArray t (0, 0)) := hs
  show Y.heap[B]? = _
  rw [hg.block B (Array.getElem?_eq_some_iff.1 hs').1 (fun e' => by obtain ⟨o, ho, hc⟩ := hrow B e'.symm; rw [hs'] at ho; cases ho; cases hc)]
  exact hs'

set_option maxRecDepth 100000 in
set_option maxHeartbeats 4000000 in
theorem rg_good (v : Value) (D : List Int) (c a : Nat) (hb : Bytes D) (hwf : WF D c) (hc : c ≤ 524288) (ha : (a : Int) ≤ 9223372036854775807) (w : World) (h : Rd8 w v D) :
    Calls Try.prog 75 #[.agg #[v, .int .i64 (c : Int)], .int .i64 (a : Int)] w (RgPost w (rgF D c a)) := by
  have hck := wf_chkb hwf hc
  obtain ⟨z, hz⟩ : ∃ z, zr D a (c - a) = z := ⟨_, rfl⟩
  have hzs := zr_spec D (c - a) a
  have hzu := zr_is D (c - a) a
  rw [hz] at hzs hzu
  have hR : rgF D c a = if (c : Int) ≤ (a : Int) + (z : Int) then (9, 0, 0) else if 30 < z then (2, 0, 0) else if (c : Int) < (a : Int) + 2 * (z : Int) + 1 then (9, 0, 0) else (0, num (cut D (a + z) (z + 1)), (a : Int) + 2 * (z : Int) + 1) := by
    unfold rgF
    rw [if_neg (by simp [hck]), if_neg (by omega)]
    simp only [Int.toNat_natCast, hz]
  obtain ⟨R, hRR⟩ : ∃ R, rgF D c a = R := ⟨_, rfl⟩
  rw [hRR]
  have HR := hidden (hRR.symm.trans hR)
  clear hRR hR
  have hk := hidden hck
  have hlen := hwf.len
  have hl : D.length ≤ 65536 := by omega
  have hy8 : c ≤ 8 * D.length := by omega
  obtain ⟨ad, cap, rfl, q1, q2, q3⟩ := Rd.shape h
  have k3 : ¬ (a : Int) < 0 := by omega
  have W0B := Blk.new w [.slice ad D.length cap, .int .i64 (c : Int)] 91
  have W0R : Rd8 (w.alloc (.cells #[.slice ad D.length cap, .int .i64 (c : Int)] 91)) (.slice ad D.length cap) D := Rd.alloc h _
  have W0E : Ext w (w.alloc (.cells #[.slice ad D.length cap, .int .i64 (c : Int)] 91)) := (Ext.refl w).alloc _
  have p0 := W0B.cell 0 _ rfl
  have p1 := W0B.cell 1 _ rfl
  have k7 : decide ((a : Int) < 0) = false := by simp
  clear hlen hck
  have Hzs := hidden hzs
  have Hz := hidden hz
  have Hzu := hidden hzu
  clear hzs hz hzu
  refine (callsIn_wide (n := 6)).1 ?_
  refine callsIn_of_wp_marks Try.func75 rfl trivial ?_ rfl
  simp only [Try.ntmps75, List.size_toArray, List.length_cons, List.length_nil, Nat.reduceAdd, Nat.reduceSub, Array.replicate_succ, Array.replicate_zero, List.push_toArray, List.append_toArray, List.nil_append, List.cons_append]
  gi_wp2_with (first | (refine ⟨trivial, ?_⟩; gi_at_call 73; refine (callsIn_wide.2 (check_any _ D (c : Int) hb (by omega) (by omega) (by omega) _ W0R)).mono ?_; rw [hk.out]; rintro e w1 ⟨rfl, g1⟩; have pb0 := (W0B.ext g1).cell 0 _ rfl; have pb1 := (W0B.ext g1).cell 1 _ rfl; have pb2 := ((Ext.alloc (Ext.alloc (Ext.refl w1) (.cells #[.slice ad D.length cap, .int .i64 (c : Int)] 113)) (.cells #[.int .i64 0] 3)).cell pb1)) | (refine ⟨trivial, ?_⟩; gi_at_call 74; refine (callsIn_wide.2 (places_in _ _ _ _)).mono ?_; rintro e w2 ⟨rfl, rfl⟩))
  have hs1 := g1.size
  simp at hs1
  have bq : Blk (((((w1.alloc (.cells #[.slice ad D.length cap, .int .i64 (c : Int)] 113)).alloc (.cells #[.int .i64 0] 3)).alloc (.cells #[.pointer (some ⟨w1.heap.size, 0, none⟩)] 111)).alloc (.cells #[.int .i64 (a : Int)] 3)).alloc (.cells #[.int .i64 (c : Int)] 3)) w1.heap.size 113 [.slice ad D.length cap, .int .i64 (c : Int)] := ((((Blk.new w1 [.slice ad D.length cap, .int .i64 (c : Int)] 113).alloc _).alloc _).alloc _).alloc _
  have bn : Blk (((((w1.alloc (.cells #[.slice ad D.length cap, .int .i64 (c : Int)] 113)).alloc (.cells #[.int .i64 0] 3)).alloc (.cells #[.pointer (some ⟨w1.heap.size, 0, none⟩)] 111)).alloc (.cells #[.int .i64 (a : Int)] 3)).alloc (.cells #[.int .i64 (c : Int)] 3)) (w1.heap.size + 1) 3 [.int .i64 0] := (((Blk.newAt (w1.alloc (.cells #[.slice ad D.length cap, .int .i64 (c : Int)] 113)) [.int .i64 0] 3 (w1.heap.size + 1) (by simp)).alloc _).alloc _).alloc _
  have b0 : Blk (((((w1.alloc (.cells #[.slice ad D.length cap, .int .i64 (c : Int)] 113)).alloc (.cells #[.int .i64 0] 3)).alloc (.cells #[.pointer (some ⟨w1.heap.size, 0, none⟩)] 111)).alloc (.cells #[.int .i64 (a : Int)] 3)).alloc (.cells #[.int .i64 (c : Int)] 3)) (w1.heap.size + 1 + 1) 111 [.pointer (some ⟨w1.heap.size, 0, none⟩)] := ((Blk.newAt ((w1.alloc (.cells #[.slice ad D.length cap, .int .i64 (c : Int)] 113)).alloc (.cells #[.int .i64 0] 3)) [.pointer (some ⟨w1.heap.size, 0, none⟩)] 111 (w1.heap.size + 1 + 1) (by simp)).alloc _).alloc _
  have b1 : Blk (((((w1.alloc (.cells #[.slice ad D.length cap, .int .i64 (c : Int)] 113)).alloc (.cells #[.int .i64 0] 3)).alloc (.cells #[.pointer (some ⟨w1.heap.size, 0, none⟩)] 111)).alloc (.cells #[.int .i64 (a : Int)] 3)).alloc (.cells #[.int .i64 (c : Int)] 3)) (w1.heap.size + 1 + 1 + 1) 3 [.int .i64 (a : Int)] := (Blk.newAt (((w1.alloc (.cells #[.slice ad D.length cap, .int .i64 (c : Int)] 113)).alloc (.cells #[.int .i64 0] 3)).alloc (.cells #[.pointer (some ⟨w1.heap.size, 0, none⟩)] 111)) [.int .i64 (a : Int)] 3 (w1.heap.size + 1 + 1 + 1) (by simp)).alloc _
  have b2 : Blk (((((w1.alloc (.cells #[.slice ad D.length cap, .int .i64 (c : Int)] 113)).alloc (.cells #[.int .i64 0] 3)).alloc (.cells #[.pointer (some ⟨w1.heap.size, 0, none⟩)] 111)).alloc (.cells #[.int .i64 (a : Int)] 3)).alloc (.cells #[.int .i64 (c : Int)] 3)) (w1.heap.size + 1 + 1 + 2) 3 [.int .i64 (c : Int)] := Blk.newAt ((((w1.alloc (.cells #[.slice ad D.length cap, .int .i64 (c : Int)] 113)).alloc (.cells #[.int .i64 0] 3)).alloc (.cells #[.pointer (some ⟨w1.heap.size, 0, none⟩)] 111)).alloc (.cells #[.int .i64 (a : Int)] 3)) [.int .i64 (c : Int)] 3 (w1.heap.size + 1 + 1 + 2) (by simp)
  have hR2 : Rd8 (((((w1.alloc (.cells #[.slice ad D.length cap, .int .i64 (c : Int)] 113)).alloc (.cells #[.int .i64 0] 3)).alloc (.cells #[.pointer (some ⟨w1.heap.size, 0, none⟩)] 111)).alloc (.cells #[.int .i64 (a : Int)] 3)).alloc (.cells #[.int .i64 (c : Int)] 3)) (.slice ad D.length cap) D := Rd.alloc (Rd.alloc (Rd.alloc (Rd.alloc (Rd.alloc (Rd.ext W0R g1) _) _) _) _) _
  have hEW : Ext w (((((w1.alloc (.cells #[.slice ad D.length cap, .int .i64 (c : Int)] 113)).alloc (.cells #[.int .i64 0] 3)).alloc (.cells #[.pointer (some ⟨w1.heap.size, 0, none⟩)] 111)).alloc (.cells #[.int .i64 (a : Int)] 3)).alloc (.cells #[.int .i64 (c : Int)] 3)) := (((((W0E.trans g1).alloc _).alloc _).alloc _).alloc _).alloc _
  have bB : Blk (((((w1.alloc (.cells #[.slice ad D.length cap, .int .i64 (c : Int)] 113)).alloc (.cells #[.int .i64 0] 3)).alloc (.cells #[.pointer (some ⟨w1.heap.size, 0, none⟩)] 111)).alloc (.cells #[.int .i64 (a : Int)] 3)).alloc (.cells #[.int .i64 (c : Int)] 3)) w.heap.size 91 [.slice ad D.length cap, .int .i64 (c : Int)] := (((((W0B.ext g1).alloc _).alloc _).alloc _).alloc _).alloc _
  obtain ⟨W2, hW2⟩ : ∃ W, (((((w1.alloc (.cells #[.slice ad D.length cap, .int .i64 (c : Int)] 113)).alloc (.cells #[.int .i64 0] 3)).alloc (.cells #[.pointer (some ⟨w1.heap.size, 0, none⟩)] 111)).alloc (.cells #[.int .i64 (a : Int)] 3)).alloc (.cells #[.int .i64 (c : Int)] 3)) = W := ⟨_, rfl⟩
  have hsz2 : W2.heap.size = w1.heap.size + 5 := by rw [← hW2]; simp
  rw [hW2] at bq bn b0 b1 b2 hR2 hEW bB
  rw [hW2]
  clear hW2 pb0 pb1 pb2 p0 p1 W0B W0R
  have hlt : ∀ z ∈ ([w1.heap.size, w1.heap.size + 1 + 1, w1.heap.size + 1 + 1 + 1, w1.heap.size + 1 + 1 + 2] ++ dataS (.slice ad D.length cap) D.length), z < W2.heap.size := by
    intro z hz
    rcases List.mem_append.1 hz with hz | hz
    · simp at hz; omega
    · exact dataS_lt hR2 z hz
  have hnd : ∀ z ∈ ([w1.heap.size, w1.heap.size + 1 + 1, w1.heap.size + 1 + 1 + 1, w1.heap.size + 1 + 1 + 2] ++ dataS (.slice ad D.length cap) D.length), z ≠ w1.heap.size + 1 := by
    intro z hz
    rcases List.mem_append.1 hz with hz | hz
    · simp at hz; omega
    · have := dataS_lt h z hz
      omega
  have hsz2 := hidden hsz2
  refine wpIn_rangeFunc_ownG rfl (by omega) (gf := 76) (lb := #[.pointer (some ⟨w1.heap.size + 1 + 1 + 1, 0, none⟩), .pointer (some ⟨w1.heap.size + 1 + 1 + 2, 0, none⟩), .pointer (some ⟨w1.heap.size + 1 + 1, 0, none⟩)]) rfl trivial (enters_of Try.func76 (by kernel_rfl) rfl)
    (places_stops 5 (by omega) (w1.heap.size + 1 + 1) (w1.heap.size + 1 + 1 + 1) (w1.heap.size + 1 + 1 + 2) w1.heap.size a c (.slice ad D.length cap) (.int .i64 (c : Int)) D hb hy8 hl ([w1.heap.size, w1.heap.size + 1 + 1, w1.heap.size + 1 + 1 + 1, w1.heap.size + 1 + 1 + 2] ++ dataS (.slice ad D.length cap) D.length) (by simp) (by simp) (by simp) (by simp) (fun hn g hg => by simp [dataS, hn, hg]) W2 hlt b0 b1 b2 bq hR2) keepz_t (keepz_b hlt) (Below.refl _ _) (fun _ => rfl)
    (fun pre W => (Boxed W (w1.heap.size + 1) 3 (.int .i64 (pre.length : Int)) ∧ (∀ b ∈ pre, b = false)) ∧ Below w.heap.size w W ∧ Blk W w.heap.size 91 [.slice ad D.length cap, .int .i64 (c : Int)])
    (fun cd pre W => LeftAt (w1.heap.size + 1) cd pre W ∧ Below w.heap.size w W ∧ Blk W w.heap.size 91 [.slice ad D.length cap, .int .i64 (c : Int)])
    ?hI ?hIx
    ⟨⟨bn, fun b hb => by cases hb⟩, hEW, bB⟩
    (fun x => { tmps := #[Value.agg #[Value.slice ad D.length cap, Value.int IntKind.i64 (c : Int)], Value.int IntKind.i64 (a : Int), Value.pointer (some { block := w.heap.size, off := 0 }), undef, Value.int IntKind.i64 0, Value.int IntKind.i64 0, Value.int IntKind.i64 0, Value.int IntKind.i64 0, Value.pointer (some { block := w1.heap.size, off := 0 }), Value.pointer (some { block := w1.heap.size + 1, off := 0 }), Value.bool x, undef, undef, Value.agg #[Value.slice ad D.length cap, Value.int IntKind.i64 (c : Int)], Value.int IntKind.i64 0, Value.int IntKind.i64 0, Value.bool false, undef, Value.int IntKind.i64 (a : Int), Value.bool false, Value.agg #[Value.slice ad D.length cap, Value.int IntKind.i64 (c : Int)], Value.agg #[Value.slice ad D.length cap, Value.int IntKind.i64 (c : Int)], Value.pointer (some { block := w1.heap.size, off := 0 }), Value.pointer (some { block := w1.heap.size, off := 0 }), Value.int IntKind.i64 (a : Int), Value.pointer (some { block := w.heap.size, off := 1 }), Value.int IntKind.i64 (c : Int), Value.func (Fn.func 76) #[] #[.pointer (some ⟨w1.heap.size + 1 + 1 + 1, 0, none⟩), .pointer (some ⟨w1.heap.size + 1 + 1 + 2, 0, none⟩), .pointer (some ⟨w1.heap.size + 1 + 1, 0, none⟩)], Value.bool x, undef, undef, undef, undef, undef, undef, undef, undef, undef, undef, undef, undef, undef, undef, undef, undef, undef, undef, undef, undef, undef, undef, undef, undef, undef, undef, undef, undef, undef, undef, undef], defers := [] }) ?assign ?body ?done ?stop
  case hI =>
    exact OwnFrom.and (OwnFrom.and (Own.from (boxed_own _ _ _) _) (ownFrom_pure _ _)) (OwnFrom.and (ownFrom_below (Nat.le_refl _) (by rw [hsz2.out]; omega)) (Own.from (blk_own _ _ _) _))
  case hIx =>
    intro cd
    exact OwnFrom.and (Own.from (leftAt_own _ cd) _) (OwnFrom.and (ownFrom_below (Nat.le_refl _) (by rw [hsz2.out]; omega)) (Own.from (blk_own _ _ _) _))
  case assign =>
    intro l x W K hK
    gi_wp2
    exact hK
  case body =>
    rintro l pre x W ⟨⟨hX, hF⟩, hB, hBl⟩ hlen
    have hc := hX.cell
    have hf := hX.frozen
    have hlen' : pre.length ≤ 600000 := by omega
    have hF := hidden hF
    cases x
    · gi_wp2
      exact ⟨(KeepsOthers.setCell _ _ _).from _, ⟨fun z hz => Below.heap_setCell _ _ _ _ (hnd z hz), by simp⟩, ⟨by simpa using hX.set (.int .i64 ((pre.length : Int) + 1)), fun b hb => by rcases List.mem_append.1 hb with hb | hb; exact hF.out b hb; simpa using hb⟩, hB.setCell (p := ⟨w1.heap.size + 1, 0, none⟩) (show w.heap.size ≤ w1.heap.size + 1 by omega) _, hBl.set_other (by omega) _⟩
    · gi_wp2
      exact ⟨(KeepsOthers.refl _).from _, ⟨pre, rfl, hF.out, hX, rfl⟩, hB, hBl⟩
  case done =>
    rintro E ys W hD rfl ⟨⟨hX, hF⟩, hB, hBl⟩ hK
    have hall := bo_all D a (c - a) hF
    have hzc : z = c - a := Hzu.out (c - a) (Nat.le_refl _) hall (fun h => absurd h (Nat.lt_irrefl _))
    rw [bo_len, ← hzc] at hX
    have hR9 : R = (9, 0, 0) := by rw [HR.out, if_pos (by omega)]
    have k8 : (c : Int) - (z : Int) ≤ (a : Int) := by omega
    have k9 : (z : Int) ≤ 600000 := by omega
    have hR9 := hidden hR9
    clear hall hF hzc
    have hc1 := hX.cell
    have hc2 := hBl.cell 1 _ rfl
    gi_wp2
    refine ⟨by simp, .inl ⟨_, _, rfl, run_takeDeferred hK, ?_⟩⟩
    refine ⟨.tuple #[.int .i64 0, .int .i64 0, .int .i64 9], by simp [results, Try.f75, go_sem], by rw [hR9.out], ?_⟩
    have hb := belowK_b (n₀ := w.heap.size) (w := w) (Nat.le_refl _) W E _ (.deferred none) (by rw [hsz2.out] at hD; omega) hK rfl rfl
    exact hB.trans hb
  case stop =>
    rintro E cd pre W hD ⟨k, hk2, rfl⟩ ⟨⟨ini, hin, hF, hX, rfl⟩, hB, hBl⟩ hK
    obtain ⟨hkl, hz0, hz1⟩ := bo_split D a k ini hin hF
    have hzc : z = ini.length := Hzu.out ini.length (by omega) hz0 (fun _ => hz1)
    rw [← hzc] at hX
    have hza : a + z < c := by omega
    clear hz0 hz1 hin hF hkl
    have k8 : ¬ (c : Int) - (z : Int) ≤ (a : Int) := by omega
    have k9 : (z : Int) ≤ 600000 := by omega
    have hc1 := hX.cell
    have hc2 := hBl.cell 1 _ rfl
    have hc3 := hBl.cell 0 _ rfl
    have hbe := belowK_b (n₀ := w.heap.size) (w := w)
    have HB := hidden hB
    have HK := hidden hK
    clear hzc
    have hE2 : w.heap.size ≤ E := by rw [hsz2.out] at hD; omega
    clear hbe
    by_cases h30 : 30 < z
    · have k10 : (30 : Int) < (z : Int) := by omega
      have hR2' : Hid (R = (2, 0, 0)) := hidden (by rw [HR.out, if_neg (by omega), if_pos h30])
      gi_wp2
      refine ⟨by simp, .inl ⟨_, _, rfl, run_takeDeferred HK.out, ?_⟩⟩
      refine ⟨.tuple #[.int .i64 0, .int .i64 0, .int .i64 2], by simp [results, Try.f75, go_sem], by rw [hR2'.out], ?_⟩
      exact HB.out.trans (belowK_b (n₀ := w.heap.size) (w := w) (Nat.le_refl _) W E _ (.deferred none) hE2 HK.out rfl rfl)
    · have k10 : ¬ (30 : Int) < (z : Int) := by omega
      have hRd : Rd8 W (.slice ad D.length cap) D := Rd.ext h HB.out
      have hrd0 : rdF D c ((a : Int) + (z : Int)) ((z : Int) + 1) = if (c : Int) < (a : Int) + 2 * (z : Int) + 1 then (9, 0) else (0, num (cut D (a + z) (z + 1))) := by
        unfold rdF
        rw [if_neg (by have := hk.out; omega), if_neg (by omega)]
        by_cases hh : (c : Int) < (a : Int) + 2 * (z : Int) + 1
        · rw [if_pos (by omega), if_pos hh]
        · rw [if_neg (by omega), if_neg hh, show ((a : Int) + (z : Int)).toNat = a + z by omega, show ((z : Int) + 1).toNat = z + 1 by omega]
      have hcn := cut_num_bd D (a + z) (z + 1) (by omega)
      obtain ⟨N, hN⟩ : ∃ N, num (cut D (a + z) (z + 1)) = N := ⟨_, rfl⟩
      rw [hN] at hrd0 hcn
      obtain ⟨n0, n1⟩ := hcn
      have hN := hidden hN
      by_cases hcc : (c : Int) < (a : Int) + 2 * (z : Int) + 1
      · rw [if_pos hcc] at hrd0
        have hrd0 := hidden hrd0
        have hR2' : Hid (R = (9, 0, 0)) := hidden (by rw [HR.out, if_neg (by omega), if_neg h30, if_pos hcc])
        clear hcc h
        gi_wp2_with (refine ⟨trivial, ?_⟩; gi_at_call 68; refine (callsIn_wide.2 (read_any _ D (c : Int) _ _ hb (by omega) (by omega) (by omega) _ hRd)).mono ?_; rw [hrd0.out]; rintro e w3 ⟨rfl, g3⟩)
        have hlE := (Array.getElem?_eq_some_iff.1 HK.out).1
        have g3' : Below W.heap.size W w3 := g3
        have hK3 : w3.heap[E]? = some (.deferred (some [])) := (g3'.block E hlE).trans HK.out
        refine ⟨by simp, .inl ⟨_, _, rfl, run_takeDeferred hK3, ?_⟩⟩
        refine ⟨.tuple #[.int .i64 0, .int .i64 0, .int .i64 9], by simp [results, Try.f75, go_sem], by rw [hR2'.out], ?_⟩
        have e3 : Ext w w3 := Ext.trans HB.out g3
        exact Below.trans e3 (belowK_b (n₀ := w.heap.size) (w := w) (Nat.le_refl _) w3 E _ (.deferred none) hE2 hK3 rfl rfl)
      · rw [if_neg hcc] at hrd0
        have hrd0 := hidden hrd0
        have hR2' : Hid (R = (0, N, (a : Int) + 2 * (z : Int) + 1)) := hidden (by rw [HR.out, if_neg (by omega), if_neg h30, if_neg hcc, hN.out])
        clear hcc h
        gi_wp2_with (refine ⟨trivial, ?_⟩; gi_at_call 68; refine (callsIn_wide.2 (read_any _ D (c : Int) _ _ hb (by omega) (by omega) (by omega) _ hRd)).mono ?_; rw [hrd0.out]; rintro e w3 ⟨rfl, g3⟩; have hc4 := Ext.cell g3 hc1)
        have hlE := (Array.getElem?_eq_some_iff.1 HK.out).1
        have g3' : Below W.heap.size W w3 := g3
        have hK3 : w3.drew.heap[E]? = some (.deferred (some [])) := (g3'.block E hlE).trans HK.out
        have hK3 := hidden hK3
        gi_region
        gi_wp2
        refine ⟨by simp, .inl ⟨_, _, rfl, run_takeDeferred hK3.out, ?_⟩⟩
        refine ⟨.tuple #[.int .i64 N, .int .i64 ((a : Int) + 2 * (z : Int) + 1), .int .i64 0], by simp [results, Try.f75, go_sem], by rw [hR2'.out], ?_⟩
        have e3 : Ext w w3.drew := (Ext.trans HB.out g3).drew
        exact Below.trans e3 (belowK_b (n₀ := w.heap.size) (w := w) (Nat.le_refl _) w3.drew E _ (.deferred none) hE2 hK3.out rfl rfl)


set_option maxHeartbeats 1000000 in
theorem rg_bad0 (v : Value) (D : List Int) (c a : Int) (hb : Bytes D) (hl : D.length ≤ 900000) (hc0 : -9223372036854775808 ≤ c) (hc1 : c ≤ 9223372036854775807) (w : World) (h : Rd8 w v D) (hk : chkb D c ≠ 0) :
    Calls Try.prog 75 #[.agg #[v, .int .i64 c], .int .i64 a] w (RgPost w (rgF D c a)) := by
  have hE : rgF D c a = (chkb D c, 0, 0) := by unfold rgF; rw [if_pos hk]
  rw [hE]
  obtain ⟨k, hk'⟩ : ∃ k, chkb D c = k := ⟨_, rfl⟩
  have hz : (k != 0) = true := by rw [← hk']; simp [hk]
  rw [hk']
  have Hk := hidden hk'
  clear hk hE hk'
  obtain ⟨ad, cap, rfl, q1, q2, q3⟩ := Rd.shape h
  have W0B := Blk.new w [.slice ad D.length cap, .int .i64 c] 91
  have W0R : Rd8 (w.alloc (.cells #[.slice ad D.length cap, .int .i64 c] 91)) (.slice ad D.length cap) D := Rd.alloc h _
  have W0E : Ext w (w.alloc (.cells #[.slice ad D.length cap, .int .i64 c] 91)) := (Ext.refl w).alloc _
  have p0 := W0B.cell 0 _ rfl
  have p1 := W0B.cell 1 _ rfl
  go_enter Try.func75, Try.ntmps75
  go_wp2_with fail
  refine (check_any _ D c hb (by omega) hc0 hc1 _ W0R).mono ?_
  rw [Hk.out]
  rintro e w1 ⟨rfl, g1⟩
  have pb0 := (W0B.ext g1).cell 0 _ rfl
  have pb1 := (W0B.ext g1).cell 1 _ rfl
  go_wp2_with fail
  go_ret3
  exact ⟨rfl, W0E.trans g1⟩

set_option maxHeartbeats 1000000 in
theorem rg_bad1 (v : Value) (D : List Int) (c a : Int) (hb : Bytes D) (hl : D.length ≤ 900000) (hc0 : -9223372036854775808 ≤ c) (hc1 : c ≤ 9223372036854775807) (w : World) (h : Rd8 w v D) (hk : chkb D c = 0) (hn : a < 0) :
    Calls Try.prog 75 #[.agg #[v, .int .i64 c], .int .i64 a] w (RgPost w (rgF D c a)) := by
  have hE : rgF D c a = (2, 0, 0) := by unfold rgF; rw [if_neg (by simp [hk]), if_pos hn]
  rw [hE]
  have Hk := hidden hk
  clear hk hE
  obtain ⟨ad, cap, rfl, q1, q2, q3⟩ := Rd.shape h
  have W0B := Blk.new w [.slice ad D.length cap, .int .i64 c] 91
  have W0R : Rd8 (w.alloc (.cells #[.slice ad D.length cap, .int .i64 c] 91)) (.slice ad D.length cap) D := Rd.alloc h _
  have W0E : Ext w (w.alloc (.cells #[.slice ad D.length cap, .int .i64 c] 91)) := (Ext.refl w).alloc _
  have p0 := W0B.cell 0 _ rfl
  have p1 := W0B.cell 1 _ rfl
  go_enter Try.func75, Try.ntmps75
  go_wp2_with fail
  refine (check_any _ D c hb (by omega) hc0 hc1 _ W0R).mono ?_
  rw [Hk.out]
  rintro e w1 ⟨rfl, g1⟩
  have pb0 := (W0B.ext g1).cell 0 _ rfl
  have pb1 := (W0B.ext g1).cell 1 _ rfl
  go_wp2_with fail
  go_ret3
  exact ⟨rfl, W0E.trans g1⟩

theorem rgamma_any (v : Value) (D : List Int) (c a : Int) (hb : Bytes D) (hl : D.length ≤ 900000) (hc0 : -9223372036854775808 ≤ c) (hc1 : c ≤ 9223372036854775807) (ha : a ≤ 9223372036854775807) (w : World) (h : Rd8 w v D) :
    Calls Try.prog 75 #[.agg #[v, .int .i64 c], .int .i64 a] w (RgPost w (rgF D c a)) := by
  by_cases hk : chkb D c = 0
  · by_cases hn : a < 0
    · exact rg_bad1 v D c a hb hl hc0 hc1 w h hk hn
    · obtain ⟨k0, k1, hwf⟩ := chkb_wf hb hk
      have := rg_good v D c.toNat a.toNat hb hwf (by omega) (by omega) w h
      rw [Int.toNat_of_nonneg k0, Int.toNat_of_nonneg (by omega)] at this
      exact this
  · exact rg_bad0 v D c a hb hl hc0 hc1 w h hk

end Go.Proofs.Ytjfdmhdmadnkoaa
