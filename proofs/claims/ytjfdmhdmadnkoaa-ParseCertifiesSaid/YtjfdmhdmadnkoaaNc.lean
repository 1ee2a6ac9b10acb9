/- Layer 36: the cheapest choice, of the program. -/
import Derived.Test.YtjfdmhdmadnkoaaNb
import Derived.Test.YtjfdmhdmadnkoaaHr
namespace Go.Proofs.Ytjfdmhdmadnkoaa
open Go.RowKit Go.Shelf
set_option linter.unusedVariables false
attribute [local go_sem] Oper.semAt_some

/-- A slice of integers that is read. -/
def RdI (w : World) (v : Value) (l : List Int) : Prop := Rd w 1 v l.length (l.map (Value.int .i64))

theorem psize_any (L D B : Int) (w : World) : Calls Try.prog 34 #[.agg #[.int .i64 L, .int .i64 D, .int .u8 B]] w fun x w' => x = .returned (.int .i64 (szT (L, D, B))) ∧ Ext w w' := by
  have hE := (Ext.refl w).alloc (.cells #[.int .i64 L, .int .i64 D, .int .u8 B] 60)
  have c0 := (Blk.new w [.int .i64 L, .int .i64 D, .int .u8 B] 60).cell 0 _ rfl
  have hr : Hid (szT (L, D, B) = max L 1) := hidden (by unfold szT; show (if L < 1 then _ else _) = _; split <;> (show _ = (_ : Int); omega))
  go_enter Try.func34, Try.ntmps34
  go_wp2_with fail
  go_ret
  exact ⟨ret_int hr.out.symm, hE⟩
theorem beL_map_snoc {D P : List Int} {a : Nat} (pre : List (ChT D a)) (x : ChT D a) : beL P a ((pre ++ [x]).map (fun t : ChT D a => t.1)) = bsP P a (beL P a (pre.map (fun t : ChT D a => t.1))) x.1 := by rw [List.map_append]; exact beL_snoc P a _ _

set_option maxRecDepth 100000 in
set_option maxHeartbeats 4000000 in
theorem pbest_any (v vp : Value) (D P : List Int) (a : Nat) (hb : Bytes D) (ha : a < D.length) (hl : D.length ≤ 65536) (hPl : P.length = D.length + 1) (hP : ∀ x ∈ P, 0 ≤ x ∧ x ≤ 1000000000) (w : World) (h : Rd8 w v D) (hp : RdI w vp P) :
    Calls Try.prog 51 #[v, .int .i64 (a : Int), vp] w fun x w' => x = .returned (.tuple #[tkv (beF D P a).2, .int .i64 (beF D P a).1]) ∧ Ext w w' := by
  obtain ⟨ad, cap, rfl, q1, q2, q3⟩ := Rd.shape h
  obtain ⟨bb, off, hab, hbb, -⟩ := Rd.cells h (by omega)
  subst hab
  obtain ⟨pd, pc, rfl, -, -, -⟩ := Rd.shape hp
  obtain ⟨pb, po, hpb, hpb2, -⟩ := Rd.cells hp (by omega)
  subst hpb
  obtain ⟨m, hm⟩ : ∃ m, D.length = m := ⟨_, rfl⟩
  have hr : P.length = m + 1 := by omega
  rw [hm] at q1 ⊢
  rw [hr]
  have hR : Hid (Rd8 w (.slice (some ⟨bb, off, none⟩) m cap) D) := hidden (by rw [← hm]; exact h)
  replace hp : Hid (Rd w 1 (.slice (some ⟨pb, po, none⟩) (m + 1) pc) (m + 1) (P.map (Value.int .i64))) := hidden (by rw [← hr]; exact hp)
  replace hm := hidden hm
  replace hr := hidden hr
  replace hb := hidden hb
  replace hP := hidden hP
  clear h
  refine (callsIn_wide (n := 8)).1 ?_
  refine callsIn_of_wp_marks Try.func51 rfl trivial ?_ rfl
  simp only [Try.ntmps51, List.size_toArray, List.length_cons, List.length_nil, Nat.reduceAdd, Nat.reduceSub, Array.replicate_succ, Array.replicate_zero, List.push_toArray, List.append_toArray, List.nil_append, List.cons_append]
  gi_wp2_with (refine ⟨trivial, ?_⟩; gi_at_call 30; refine (callsIn_wide.2 (choices_in _ _ _ _ _)).mono ?_; rintro e w2 ⟨rfl, rfl⟩)
  have hEW : Ext w (((((((w.alloc (.cells #[.int .i64 (a : Int)] 3)).alloc (.cells #[.slice (some ⟨pb, po, none⟩) (m + 1) pc] 32)).alloc (.cells #[.int .i64 0, .int .i64 0, .int .u8 0] 60)).alloc (.cells #[.int .i64 0, .int .i64 0, .int .u8 0] 60)).alloc (.cells #[.int .i64 (-1)] 3)).alloc (.cells #[.slice (some ⟨bb, off, none⟩) m cap] 22)).alloc (.cells #[.int .i64 (a : Int)] 3)) := (((((((Ext.refl w).alloc _).alloc _).alloc _).alloc _).alloc _).alloc _).alloc _
  obtain ⟨w1, hw1⟩ : ∃ x, w.alloc (.cells #[.int .i64 (a : Int)] 3) = x := ⟨_, rfl⟩
  have z1 : w1.heap.size = w.heap.size + 1 := by rw [← hw1]; simp
  have b0 : Blk w1 w.heap.size 3 [.int .i64 (a : Int)] := by rw [← hw1]; exact Blk.new _ _ _
  rw [hw1] at hEW ⊢
  obtain ⟨w2, hw2⟩ : ∃ x, w1.alloc (.cells #[.slice (some ⟨pb, po, none⟩) (m + 1) pc] 32) = x := ⟨_, rfl⟩
  have z2 : w2.heap.size = w.heap.size + 1 + 1 := by rw [← hw2]; simp [z1]
  have b1 : Blk w2 (w.heap.size + 1) 32 [.slice (some ⟨pb, po, none⟩) (m + 1) pc] := by rw [← hw2, ← z1]; exact Blk.new _ _ _
  replace b0 : Blk w2 w.heap.size 3 [.int .i64 (a : Int)] := by rw [← hw2]; exact b0.alloc _
  rw [hw2] at hEW ⊢
  obtain ⟨w3, hw3⟩ : ∃ x, w2.alloc (.cells #[.int .i64 0, .int .i64 0, .int .u8 0] 60) = x := ⟨_, rfl⟩
  have z3 : w3.heap.size = w.heap.size + 1 + 1 + 1 := by rw [← hw3]; simp [z2]
  have b2 : Blk w3 (w.heap.size + 1 + 1) 60 [.int .i64 0, .int .i64 0, .int .u8 0] := by rw [← hw3, ← z2]; exact Blk.new _ _ _
  replace b0 : Blk w3 w.heap.size 3 [.int .i64 (a : Int)] := by rw [← hw3]; exact b0.alloc _
  replace b1 : Blk w3 (w.heap.size + 1) 32 [.slice (some ⟨pb, po, none⟩) (m + 1) pc] := by rw [← hw3]; exact b1.alloc _
  rw [hw3] at hEW ⊢
  obtain ⟨w4, hw4⟩ : ∃ x, w3.alloc (.cells #[.int .i64 0, .int .i64 0, .int .u8 0] 60) = x := ⟨_, rfl⟩
  have z4 : w4.heap.size = w.heap.size + 1 + 1 + 1 + 1 := by rw [← hw4]; simp [z3]
  have b3 : Blk w4 (w.heap.size + 1 + 1 + 1) 60 [.int .i64 0, .int .i64 0, .int .u8 0] := by rw [← hw4, ← z3]; exact Blk.new _ _ _
  have X4 : Ext w3 w4 := by rw [← hw4]; exact (Ext.refl _).alloc _
  rw [hw4] at hEW ⊢
  obtain ⟨w5, hw5⟩ : ∃ x, w4.alloc (.cells #[.int .i64 (-1)] 3) = x := ⟨_, rfl⟩
  have z5 : w5.heap.size = w.heap.size + 1 + 1 + 1 + 1 + 1 := by rw [← hw5]; simp [z4]
  have b4 : Blk w5 (w.heap.size + 1 + 1 + 1 + 1) 3 [.int .i64 (-1)] := by rw [← hw5, ← z4]; exact Blk.new _ _ _
  have X5 : Ext w4 w5 := by rw [← hw5]; exact (Ext.refl _).alloc _
  rw [hw5] at hEW ⊢
  obtain ⟨w6, hw6⟩ : ∃ x, w5.alloc (.cells #[.slice (some ⟨bb, off, none⟩) m cap] 22) = x := ⟨_, rfl⟩
  have z6 : w6.heap.size = w.heap.size + 1 + 1 + 1 + 1 + 1 + 1 := by rw [← hw6]; simp [z5]
  have b5 : Blk w6 (w.heap.size + 1 + 1 + 1 + 1 + 1) 22 [.slice (some ⟨bb, off, none⟩) m cap] := by rw [← hw6, ← z5]; exact Blk.new _ _ _
  have X6 : Ext w5 w6 := by rw [← hw6]; exact (Ext.refl _).alloc _
  rw [hw6] at hEW ⊢
  obtain ⟨W2, hw7⟩ : ∃ x, w6.alloc (.cells #[.int .i64 (a : Int)] 3) = x := ⟨_, rfl⟩
  have z7 : W2.heap.size = w.heap.size + 1 + 1 + 1 + 1 + 1 + 1 + 1 := by rw [← hw7]; simp [z6]
  have b6 : Blk W2 (w.heap.size + 1 + 1 + 1 + 1 + 1 + 1) 3 [.int .i64 (a : Int)] := by rw [← hw7, ← z6]; exact Blk.new _ _ _
  have X7 : Ext w6 W2 := by rw [← hw7]; exact (Ext.refl _).alloc _
  rw [hw7] at hEW ⊢
  replace b5 := b5.ext X7
  replace b4 := b4.ext (X6.trans X7)
  replace b3 := b3.ext (X5.trans (X6.trans X7))
  replace b2 := b2.ext (X4.trans (X5.trans (X6.trans X7)))
  replace b1 := b1.ext (X4.trans (X5.trans (X6.trans X7)))
  replace b0 := b0.ext (X4.trans (X5.trans (X6.trans X7)))
  clear hw1 hw2 hw3 hw4 hw5 hw6 hw7 z1 z2 z3 z4 z5 z6 X4 X5 X6 X7 w1 w2 w3 w4 w5 w6
  have hR2 := Rd.ext hR.out hEW
  obtain ⟨s, hs⟩ : ∃ s, w.heap.size = s := ⟨_, rfl⟩
  obtain ⟨p6, h6⟩ : ∃ p, s + 1 + 1 + 1 + 1 + 1 + 1 = p := ⟨_, rfl⟩
  obtain ⟨p5, h5⟩ : ∃ p, s + 1 + 1 + 1 + 1 + 1 = p := ⟨_, rfl⟩
  obtain ⟨p4, h4⟩ : ∃ p, s + 1 + 1 + 1 + 1 = p := ⟨_, rfl⟩
  obtain ⟨p3, h3⟩ : ∃ p, s + 1 + 1 + 1 = p := ⟨_, rfl⟩
  obtain ⟨p2, h2⟩ : ∃ p, s + 1 + 1 = p := ⟨_, rfl⟩
  obtain ⟨p1, h1⟩ : ∃ p, s + 1 = p := ⟨_, rfl⟩
  rw [hs, h6] at b6
  rw [hs, h5] at b5
  rw [hs, h4] at b4
  rw [hs, h3] at b3
  rw [hs, h2] at b2
  rw [hs, h1] at b1
  rw [hs] at b0 hbb hpb2 z7
  rw [hs, h6, h5, h4, h3, h2, h1]
  have hne : s < p1 ∧ p1 < p2 ∧ p2 < p3 ∧ p3 < p4 ∧ p4 < p5 ∧ p5 < p6 ∧ p6 < W2.heap.size := by omega
  replace z7 := hidden z7
  clear h1 h2 h3 h4 h5 h6
  have hlt : ∀ z ∈ [p5, p6, bb], z < W2.heap.size := by
    intro z hz
    simp at hz
    omega
  have hnd : ∀ z ∈ [p5, p6, bb], z ≠ p3 ∧ z ≠ p4 := by
    intro z hz
    simp at hz
    omega
  have hps := fun (L Ds B : Int) W => psize_any L Ds B W
  have hpr := fun (L Ds B : Int) W => lprice_any L Ds B W
  replace hps := hidden hps
  replace hpr := hidden hpr
  have hsv := hidden hs
  have hE0 := hidden hEW
  clear hEW hs
  refine wpIn_rangeFunc_ownH rfl (by omega) (gf := 49) (lb := #[.pointer (some ⟨p5, 0, none⟩), .pointer (some ⟨p6, 0, none⟩)]) rfl trivial (enters_of Try.func49 (by kernel_rfl) rfl)
    (choices_stops 7 (by omega) p5 p6 a (some ⟨bb, off, none⟩) m cap D hb.out ha hl [p5, p6, bb] (by simp) (by simp) (fun _ g hg => by simp [Value.ownBlock] at hg; simp [hg]) W2 hlt b5 b6 hR2) keepz_t (keepz_b hlt) (Below.refl _ _) (fun _ => rfl)
    (fun pre W => (((((Blk W p3 60 (tkc (beL P a (pre.map (fun t : ChT D a => t.1))).2) ∧ Blk W p4 3 [.int .i64 (beL P a (pre.map (fun t : ChT D a => t.1))).1]) ∧ Blk W s 3 [.int .i64 (a : Int)]) ∧ Blk W p1 32 [.slice (some ⟨pb, po, none⟩) (m + 1) pc]) ∧ Blk W p2 60 [.int .i64 0, .int .i64 0, .int .u8 0]) ∧ Below w.heap.size w W) ∧ W2.heap.size ≤ W.heap.size)
    (fun _ _ _ => False)
    (OwnFrom.and (OwnFrom.and (OwnFrom.and (OwnFrom.and (OwnFrom.and (OwnFrom.and (Own.from (blk_ownF p3 _ (fun pre : List (ChT D a) => tkc (beL P a (pre.map (fun t : ChT D a => t.1))).2)) _) (Own.from (blk_ownF p4 _ (fun pre : List (ChT D a) => [.int .i64 (beL P a (pre.map (fun t : ChT D a => t.1))).1])) _)) (Own.from (blk_own _ _ _) _)) (Own.from (blk_own _ _ _) _)) (Own.from (blk_own _ _ _) _)) (ownFrom_below (Nat.le_refl _) (by have := hsv.out; omega))) (fun _ A B row hs hg _ => Nat.le_trans hs hg.size))
    (fun _ _ _ _ _ hs _ _ => hs)
    ⟨⟨⟨⟨⟨⟨b3, b4⟩, b0⟩, b1⟩, b2⟩, hE0.out⟩, Nat.le_refl _⟩
    (fun x a' W => ∃ Bx, p6 < Bx ∧ Blk W Bx 60 [.int .i64 x.1.1, .int .i64 x.1.2.1, .int .u8 x.1.2.2] ∧ a' = { tmps := #[.slice (some ⟨bb, off, none⟩) m cap, .int .i64 (a : Int), .slice (some ⟨pb, po, none⟩) (m + 1) pc, undef, .pointer (some ⟨s, 0, none⟩), .pointer (some ⟨p1, 0, none⟩), .pointer (some ⟨p2, 0, none⟩), .int .i64 0, .pointer (some ⟨p3, 0, none⟩), .pointer (some ⟨p4, 0, none⟩), .pointer (some ⟨Bx, 0, none⟩), undef, .slice (some ⟨bb, off, none⟩) m cap, .int .i64 (a : Int), .func (.func 49) #[] #[.pointer (some ⟨p5, 0, none⟩), .pointer (some ⟨p6, 0, none⟩)], .agg #[.int .i64 x.1.1, .int .i64 x.1.2.1, .int .u8 x.1.2.2], undef, undef, undef, undef, undef, undef, undef, undef, undef, undef, undef, undef, undef, undef, undef, undef, undef, undef, undef, undef, undef], defers := [] })
    (fun x a' s A B row hs hg hr => by obtain ⟨Bx, h1, h2, h3⟩ := hs; exact ⟨Bx, h1, blk_own Bx _ _ () A B row h2 hg (fun r e => (hr r e).2), h3⟩) ?assign ?body ?done ?stop
  case assign =>
    rintro l pre ⟨⟨L, Ds, B⟩, hx⟩ W K ⟨⟨⟨⟨⟨⟨i3, i4⟩, i0⟩, i1⟩, i2⟩, iB⟩, iz⟩ hK
    have iB' : Ext w W := iB
    have hW6 : p6 < W.heap.size := by omega
    gi_wp2
    refine hK _ _ ((KeepsOthers.alloc _ _).from _) ⟨KeepS.ext ((Ext.refl W).alloc _) (fun z hz => ?_), by simp⟩ ⟨⟨⟨⟨⟨⟨i3.alloc _, i4.alloc _⟩, i0.alloc _⟩, i1.alloc _⟩, i2.alloc _⟩, iB'.alloc _⟩, by simp; omega⟩ ⟨W.heap.size, hW6, Blk.new _ _ _, rfl⟩
    simp at hz
    omega
  case body =>
    rintro l pre ⟨⟨L, Ds, B⟩, hx⟩ a' W hl0 ⟨rr, hrr⟩ ⟨⟨⟨⟨⟨⟨i3, i4⟩, i0⟩, i1⟩, i2⟩, iB⟩, iz⟩ ⟨Bx, hBx, bX, rfl⟩ hlen
    have iB' : Ext w W := iB
    obtain ⟨k1, k2, k3, k4, k5, k6⟩ := chc_ok hb.out ha (Nat.min_le_left 4096 a) (Nat.min_le_right 4096 a) hx
    have hpz := hps.out L Ds B
    have hpc := hpr.out L Ds B
    change ∀ W, Calls Try.prog _ #[.agg #[.int .i64 L, .int .i64 Ds, .int .u8 B]] W _ at hpc
    have hpd := prc_bd (L, Ds, B)
    have hsn := beL_map_snoc (P := P) pre ⟨(L, Ds, B), hx⟩
    unfold bsP ctP at hsn
    obtain ⟨z, hz⟩ : ∃ z, szT (L, Ds, B) = z := ⟨_, rfl⟩
    obtain ⟨c, hc⟩ : ∃ c, prc (L, Ds, B) = c := ⟨_, rfl⟩
    simp only at hsn
    rw [hz] at k3 k5 k6 hsn
    rw [hc] at hpd hsn
    rw [hm.out] at k3
    simp only [hz] at hpz
    simp only [hc] at hpc
    obtain ⟨zn, rfl⟩ : ∃ n : Nat, z = (n : Int) := ⟨z.toNat, by omega⟩
    rw [Int.toNat_natCast] at hsn
    have hRp := Rd.ext hp.out iB'
    have hPi : a + zn < P.length := by rw [hr.out]; omega
    have cP := hRp.cells (by omega)
    obtain ⟨pb', po', e1, -, cP⟩ := cP
    simp only [Option.some.injEq, Addr.mk.injEq, and_true] at e1
    obtain ⟨rfl, rfl⟩ := e1
    have cP := cP (a + zn) (by simpa using hPi)
    rw [show (P.map (Value.int .i64)).getD (a + zn) undef = .int .i64 (P.getD (a + zn) 0) by simp [List.getD, hPi]] at cP
    have bP : 0 ≤ P.getD (a + zn) 0 ∧ P.getD (a + zn) 0 ≤ 1000000000 := by
      have e : P.getD (a + zn) 0 = P[a + zn] := by simp [List.getD, hPi]
      rw [e]; exact hP.out _ (List.getElem_mem hPi)
    obtain ⟨y, hy⟩ : ∃ y, P.getD (a + zn) 0 = y := ⟨_, rfl⟩
    rw [hy] at cP bP hsn
    obtain ⟨⟨Lb, tL, tD, tB⟩, hN⟩ : ∃ N, beL P a (pre.map (fun t : ChT D a => t.1)) = N := ⟨_, rfl⟩
    rw [hN] at i3 i4 hsn
    have hne1 : Bx ≠ p3 ∧ Bx ≠ p4 := by omega
    have bX0 := bX.cell 0 _ rfl
    have bX1 := bX.cell 1 _ rfl
    have bX2 := bX.cell 2 _ rfl
    have a0 := i0.cell 0 _ rfl
    have a1 := i1.cell 0 _ rfl
    obtain ⟨S, hSd⟩ : ∃ S : World → Prop, S = fun W' => (((((W'.cell? ⟨Bx, 0, none⟩ = some (.int .i64 L) ∧ W'.cell? ⟨Bx, 1, none⟩ = some (.int .i64 Ds)) ∧ W'.cell? ⟨Bx, 2, none⟩ = some (.int .u8 B)) ∧ W'.cell? ⟨s, 0, none⟩ = some (.int .i64 (a : Int))) ∧ W'.cell? ⟨p1, 0, none⟩ = some (.slice (some ⟨pb, po, none⟩) (m + 1) pc)) ∧ W'.cell? ⟨pb, po + (a + zn), none⟩ = some (.int .i64 y)) := ⟨_, rfl⟩
    have hSi : Hid (∀ W', Ext W W' → S W') := hidden (fun W' hX => by rw [hSd]; exact ⟨⟨⟨⟨⟨hX.cell bX0, hX.cell bX1⟩, hX.cell bX2⟩, hX.cell a0⟩, hX.cell a1⟩, hX.cell cP⟩)
    have hSo : Hid (∀ W', S W' → (((((W'.cell? ⟨Bx, 0, none⟩ = some (.int .i64 L) ∧ W'.cell? ⟨Bx, 1, none⟩ = some (.int .i64 Ds)) ∧ W'.cell? ⟨Bx, 2, none⟩ = some (.int .u8 B)) ∧ W'.cell? ⟨s, 0, none⟩ = some (.int .i64 (a : Int))) ∧ W'.cell? ⟨p1, 0, none⟩ = some (.slice (some ⟨pb, po, none⟩) (m + 1) pc)) ∧ W'.cell? ⟨pb, po + (a + zn), none⟩ = some (.int .i64 y))) := hidden (fun W' h => by rw [hSd] at h; exact h)
    have v1 : IntKind.i64.wrap ((a : Int) + (zn : Int)) = (a : Int) + (zn : Int) := IntWalk.i64_in _ (by omega)
    have v2 : IntKind.i64.wrap (c + y) = c + y := IntWalk.i64_in _ (by omega)
    have j1 : (0 : Int) ≤ (a : Int) + (zn : Int) := by omega
    have j2 : (a : Int) + (zn : Int) < (m : Int) + 1 := by omega
    have j3 : ((a : Int) + (zn : Int)).toNat = a + zn := by omega
    replace hsn := hidden hsn
    replace hpz := hidden hpz
    replace hpc := hidden hpc
    clear bX0 bX1 bX2 a0 a1 cP hSd hPi hRp hN hy hz hc k1 k2 k4
    gi_wp2
    rename_i KK hKK
    refine wpIn_round_held S (by kernel_rfl) (fun ⟨_, _, h⟩ => (show False from h)) (by kernel_rfl) ?_
    have hS1 := hSi.out W.drew (Ext.refl W).drew
    refine takeH 0 (.agg #[.int .i64 L, .int .i64 Ds, .int .u8 B]) rfl rfl (by kernel_rfl) (by kernel_rfl) (by kernel_rfl) (fun _ _ _ h => h) (by rfl) (fun w' hw' => by obtain ⟨⟨⟨⟨⟨y0, y1⟩, y2⟩, y3⟩, y4⟩, y5⟩ := hSo.out w' hw'; go_simp) hS1 ?_
    simp only [List.setIfInBounds_toArray, List.set_cons_zero, List.set_cons_succ]
    refine takeH 2 (.slice (some ⟨pb, po, none⟩) (m + 1) pc) rfl rfl (by kernel_rfl) (by kernel_rfl) (by kernel_rfl) (fun _ _ _ h => h) (by rfl) (fun w' hw' => by obtain ⟨⟨⟨⟨⟨y0, y1⟩, y2⟩, y3⟩, y4⟩, y5⟩ := hSo.out w' hw'; go_simp) hS1 ?_
    simp only [List.setIfInBounds_toArray, List.set_cons_zero, List.set_cons_succ]
    refine takeH 3 (.int .i64 (a : Int)) rfl rfl (by kernel_rfl) (by kernel_rfl) (by kernel_rfl) (fun _ _ _ h => h) (by rfl) (fun w' hw' => by obtain ⟨⟨⟨⟨⟨y0, y1⟩, y2⟩, y3⟩, y4⟩, y5⟩ := hSo.out w' hw'; go_simp) hS1 ?_
    simp only [List.setIfInBounds_toArray, List.set_cons_zero, List.set_cons_succ]
    refine takeH 4 (.agg #[.int .i64 L, .int .i64 Ds, .int .u8 B]) rfl rfl (by kernel_rfl) (by kernel_rfl) (by kernel_rfl) (fun _ _ _ h => h) (by rfl) (fun w' hw' => by obtain ⟨⟨⟨⟨⟨y0, y1⟩, y2⟩, y3⟩, y4⟩, y5⟩ := hSo.out w' hw'; go_simp) hS1 ?_
    simp only [List.setIfInBounds_toArray, List.set_cons_zero, List.set_cons_succ]
    refine callH 1 37 #[.agg #[.int .i64 L, .int .i64 Ds, .int .u8 B]] rfl rfl (by kernel_rfl) (by rfl) (by go_simp) (hpc.out _) ?_
    rintro e w3 ⟨rfl, g3⟩
    refine ⟨_, rfl, hSi.out w3 ((Ext.refl W).drew.trans g3), ?_⟩
    simp only [List.setIfInBounds_toArray, List.set_cons_zero, List.set_cons_succ]
    refine callH 5 34 #[.agg #[.int .i64 L, .int .i64 Ds, .int .u8 B]] rfl rfl (by kernel_rfl) (by rfl) (by go_simp) (hpz.out _) ?_
    rintro e w4 ⟨rfl, g4⟩
    have gX : Ext W w4 := ((Ext.refl W).drew.trans g3).trans g4
    have hS4 := hSi.out w4 gX
    refine ⟨_, rfl, hS4, ?_⟩
    simp only [List.setIfInBounds_toArray, List.set_cons_zero, List.set_cons_succ]
    refine takeH 6 (.int .i64 ((a : Int) + (zn : Int))) rfl rfl (by kernel_rfl) (by kernel_rfl) (by kernel_rfl) (fun _ _ _ h => h) (by rfl) (fun w' hw' => by go_simp) hS4 ?_
    simp only [List.setIfInBounds_toArray, List.set_cons_zero, List.set_cons_succ]
    refine takeH 7 (.pointer (some ⟨pb, po + (a + zn), none⟩)) rfl rfl (by kernel_rfl) (by kernel_rfl) (by kernel_rfl) (fun _ _ _ h => h) (by rfl) (fun w' hw' => by go_simp) hS4 ?_
    simp only [List.setIfInBounds_toArray, List.set_cons_zero, List.set_cons_succ]
    refine takeH 8 (.int .i64 y) rfl rfl (by kernel_rfl) (by kernel_rfl) (by kernel_rfl) (fun _ _ _ h => h) (by rfl) (fun w' hw' => by obtain ⟨⟨⟨⟨⟨y0, y1⟩, y2⟩, y3⟩, y4⟩, y5⟩ := hSo.out w' hw'; go_simp) hS4 ?_
    simp only [List.setIfInBounds_toArray, List.set_cons_zero, List.set_cons_succ]
    refine takeH 9 (.int .i64 (c + y)) rfl rfl (by kernel_rfl) (by kernel_rfl) (by kernel_rfl) (fun _ _ _ h => h) (by rfl) (fun w' hw' => by go_simp) hS4 ?_
    simp only [List.setIfInBounds_toArray, List.set_cons_zero, List.set_cons_succ]
    refine takeH 10 (.int .i64 (c + y)) rfl rfl (by kernel_rfl) (by kernel_rfl) (by kernel_rfl) (fun _ _ _ h => h) (by rfl) (fun w' hw' => by go_simp) hS4 ?_
    simp only [List.setIfInBounds_toArray, List.set_cons_zero, List.set_cons_succ]
    refine wpAnyH_done (by kernel_rfl) ?_ _
    show KK _ _
    refine hKK _ _ ?_
    have c3 := (i3.ext gX).cell 0 _ rfl
    have c3' := (i3.ext gX).cell 1 _ rfl
    have c3'' := (i3.ext gX).cell 2 _ rfl
    have f3 := (i3.ext gX).frozen 0
    have f3' := (i3.ext gX).frozen 1
    have f3'' := (i3.ext gX).frozen 2
    have c4 := (i4.ext gX).cell 0 _ rfl
    have f4 := (i4.ext gX).frozen 0
    simp only at c3 c3' c3''
    obtain ⟨⟨⟨⟨⟨y0, y1⟩, y2⟩, y3⟩, y4⟩, y5⟩ := hSo.out w4 hS4
    have hz4 := gX.size
    have hkS : KeepS [p5, p6, bb] W w4 := KeepS.ext gX (fun z hz => by have := hlt z hz; omega)
    have hko : KeepsOthers W w4 := KeepsOthers.of_grownBy gX.grown (fun j o e => by cases e)
    have hQ4 : Ext w w4 := iB'.trans gX
    have q3 := i3.ext gX
    have q4 := i4.ext gX
    have q0 := i0.ext gX
    have q1' := i1.ext gX
    have q2' := i2.ext gX
    replace hkS := hidden hkS
    replace hko := hidden hko
    replace hQ4 := hidden hQ4
    replace q3 := hidden q3
    replace q4 := hidden q4
    replace q0 := hidden q0
    replace q1' := hidden q1'
    replace q2' := hidden q2'
    clear i3 i4 i0 i1 i2 iB iB' hS4 hS1 g3 g4 gX hpz hpc bX
    by_cases hb1 : Lb < 0 ∨ c + y ≤ Lb
    · have hfin : Hid (beL P a ((pre ++ [(⟨(L, Ds, B), hx⟩ : ChT D a)]).map (fun t : ChT D a => t.1)) = (c + y, (L, Ds, B))) := hidden (by rw [hsn.out, if_pos hb1])
      by_cases hb2 : Lb < 0
      all_goals
        (try have hb3 : c + y ≤ Lb := by omega)
        clear hb1
        gi_wp2
        refine ⟨?_, ⟨?_, ?_⟩, ?_⟩
        rotate_left 3
        refine ⟨⟨⟨⟨⟨⟨?_, ?_⟩, ?_⟩, ?_⟩, ?_⟩, ?_⟩, ?_⟩
        rotate_right 3
        · exact ((((hko.out.trans (KeepsOthers.setCell _ _ _)).trans (KeepsOthers.setCell _ _ _)).trans (KeepsOthers.setCell _ _ _)).trans (KeepsOthers.setCell _ _ _)).from _
        · exact hkS.out.trans (fun z hz => (((Below.heap_setCell _ _ _ _ (hnd z hz).2).trans (Below.heap_setCell _ _ _ _ (hnd z hz).1)).trans (Below.heap_setCell _ _ _ _ (hnd z hz).1)).trans (Below.heap_setCell _ _ _ _ (hnd z hz).1))
        · simp [World.setCell]; omega
        · rw [hfin.out]; exact (((q3.out.set 0 _).set 1 _).set 2 _).set_other (by omega) _
        · rw [hfin.out]; exact (((q4.out.set_other (by omega) _).set_other (by omega) _).set_other (by omega) _).set 0 _
        · exact (((q0.out.set_other (by omega) _).set_other (by omega) _).set_other (by omega) _).set_other (by omega) _
        · exact (((q1'.out.set_other (by omega) _).set_other (by omega) _).set_other (by omega) _).set_other (by omega) _
        · exact (((q2'.out.set_other (by omega) _).set_other (by omega) _).set_other (by omega) _).set_other (by omega) _
        · exact ((hQ4.out.set3 p3 (by have := hsv.out; omega) _ _ _).setCell (p := ⟨p4, 0, none⟩) (by have := hsv.out; show w.heap.size ≤ p4; omega) _)
        · simp [World.setCell]; omega
    · have hfin : Hid (beL P a ((pre ++ [(⟨(L, Ds, B), hx⟩ : ChT D a)]).map (fun t : ChT D a => t.1)) = (Lb, tL, tD, tB)) := hidden (by rw [hsn.out, if_neg hb1])
      have hb2 : ¬ Lb < 0 := by omega
      have hb3 : ¬ c + y ≤ Lb := by omega
      clear hb1
      gi_wp2
      refine ⟨hko.out.from _, ⟨hkS.out, hz4⟩, ?_⟩
      refine ⟨⟨⟨⟨⟨⟨?_, ?_⟩, q0.out⟩, q1'.out⟩, q2'.out⟩, hQ4.out⟩, by omega⟩
      · rw [hfin.out]; exact q3.out
      · rw [hfin.out]; exact q4.out
  case done =>
    rintro E ys W hD hys ⟨⟨⟨⟨⟨⟨i3, i4⟩, i0⟩, i1⟩, i2⟩, iB⟩, iz⟩ hK
    rw [hys] at i3 i4
    change Blk W p3 _ (tkc (beF D P a).2) at i3
    change Blk W p4 _ [.int .i64 (beF D P a).1] at i4
    obtain ⟨⟨Lb, tL, tD, tB⟩, hN⟩ : ∃ N, beF D P a = N := ⟨_, rfl⟩
    rw [hN] at i3 i4
    replace hN := hidden hN
    have c3 := i3.cell 0 _ rfl
    have c3' := i3.cell 1 _ rfl
    have c3'' := i3.cell 2 _ rfl
    have c4 := i4.cell 0 _ rfl
    have c2 := i2.cell 0 _ rfl
    have c2' := i2.cell 1 _ rfl
    have c2'' := i2.cell 2 _ rfl
    have f2 := i2.frozen 0
    have f2' := i2.frozen 1
    have f2'' := i2.frozen 2
    simp only at c3 c3' c3'' c4
    gi_wp2
    rename_i KK hKK
    refine wpIn_wide.2 ?_
    go_region
    all_goals
      show KK _ _
      refine hKK _ _ ?_
      gi_wp2
      have hE : E ≠ p2 := by omega
      have hK3 : (((W.setCell ⟨p2, 0, none⟩ (.int .i64 tL)).setCell ⟨p2, 1, none⟩ (.int .i64 tD)).setCell ⟨p2, 2, none⟩ (.int .u8 tB)).drew.heap[E]? = some (.deferred (some [])) := by
        show (((W.setCell ⟨p2, 0, none⟩ (.int .i64 tL)).setCell ⟨p2, 1, none⟩ (.int .i64 tD)).setCell ⟨p2, 2, none⟩ (.int .u8 tB)).heap[E]? = _
        rw [Below.heap_setCell _ _ _ _ hE, Below.heap_setCell _ _ _ _ hE, Below.heap_setCell _ _ _ _ hE]; exact hK
      have hZ3 : Blk (((W.setCell ⟨p2, 0, none⟩ (.int .i64 tL)).setCell ⟨p2, 1, none⟩ (.int .i64 tD)).setCell ⟨p2, 2, none⟩ (.int .u8 tB)).drew p2 60 [.int .i64 tL, .int .i64 tD, .int .u8 tB] := (((i2.set 0 _).set 1 _).set 2 _).drew
      have hB3 : Ext w (((W.setCell ⟨p2, 0, none⟩ (.int .i64 tL)).setCell ⟨p2, 1, none⟩ (.int .i64 tD)).setCell ⟨p2, 2, none⟩ (.int .u8 tB)).drew := (Ext.set3 iB p2 (by have := hsv.out; omega) _ _ _).drew
      obtain ⟨W3, hW3⟩ : ∃ X, (((W.setCell ⟨p2, 0, none⟩ (.int .i64 tL)).setCell ⟨p2, 1, none⟩ (.int .i64 tD)).setCell ⟨p2, 2, none⟩ (.int .u8 tB)).drew = X := ⟨_, rfl⟩
      rw [hW3] at hK3 hZ3 hB3 ⊢
      refine ⟨by simp, .inl ⟨_, _, rfl, run_takeDeferred hK3, ?_⟩⟩
      have hk4 : KeepS [p2] W3 (W3.putObj E (.deferred none)) := fun x hx => World.putObj_heap_other (fun e => by simp at hx; omega)
      have hZ4 := hZ3.keep hk4 (by simp)
      have g0 := hZ4.cell 0 _ rfl
      have g1 := hZ4.cell 1 _ rfl
      have g2 := hZ4.cell 2 _ rfl
      refine ⟨.tuple #[.agg #[.int .i64 tL, .int .i64 tD, .int .u8 tB], .int .i64 Lb], ?_, ?_, ?_⟩
      · simp [results, Try.f51, go_sem, g0, g1, g2]
      · have e := hN.out
        show _ = Ending.returned (.tuple #[tkv (beF D P a).2, .int .i64 (beF D P a).1])
        rw [e]
        rfl
      · exact Below.trans hB3 (belowK_b (n₀ := w.heap.size) (w := w) (Nat.le_refl _) W3 E _ (.deferred none) (by have := hsv.out; omega) hK3 rfl rfl)
  case stop =>
    rintro D c pre W _ _ h _
    exact h.elim
end Go.Proofs.Ytjfdmhdmadnkoaa
