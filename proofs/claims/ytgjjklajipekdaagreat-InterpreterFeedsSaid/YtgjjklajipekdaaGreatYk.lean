
import Derived.Test.YtgjjklajipekdaaGreatYh
import Derived.Test.YtgjjklajipekdaaGreatHu
import Derived.StillTailTactics
namespace Go.Proofs.YtgjjklajipekdaaGreat
set_option maxHeartbeats 16000000
set_option maxRecDepth 100000
open Go.RowKit
set_option linter.unusedVariables false
set_option linter.unusedSimpArgs false
attribute [local go_sem ↓] Go.wp_at_zero Go.wp_at_succ
theorem arow_cell {w : World} {B : Nat} {v : Value} {a : List Int} (h : (arow v a).own w B) {k : Nat} (hk : k < a.length) : ∃ g cap, v = .slice (some ⟨g, 0, none⟩) a.length cap ∧ B ≤ g ∧ g < w.heap.size ∧ a.length ≤ cap ∧ w.cell? ⟨g, k, none⟩ = some (.int .u32 (a.getD k 0)) := by
 unfold Row.own arow at h
 simp only at h
 obtain ⟨x, cap, rfl, hcap, -, hg⟩ := own_shape h
 obtain ⟨g, rfl, hb, hg⟩ := hg (by omega)
 refine ⟨g, cap, rfl, hb, hg, hcap, own_cell h k _ ?_⟩
 rw [List.getElem?_map, List.getElem?_eq_getElem hk, List.getD_eq_getElem?_getD, List.getElem?_eq_getElem hk]; rfl
theorem arow_frozen {w : World} {B g n cap k : Nat} {t : TypeId} {sz : Nat} {cs : List Value} (h : w.ownsRow B t sz (.slice (some ⟨g, 0, none⟩) n cap) n cs) : w.frozen? ⟨g, k, none⟩ = false := by
 rcases h.2 with ⟨h1, _⟩ | ⟨g', cap', cur, hv, hb, hg, -⟩
 ·simp at h1
 ·simp only [Value.slice.injEq, Option.some.injEq, Addr.mk.injEq, and_true, true_and] at hv
  obtain ⟨rfl, rfl⟩ := hv
  simp [World.frozen?, hg]
theorem m_load : Meth 93 1 := by
 intro w B q V X E s arg l v h
 rw [exe1]
 have hp := fun W c => push1 h.m h.hb h.ok W c (s.lo.getD arg.toNat 0) false
 obtain ⟨k, rfl⟩ := Int.eq_ofNat_of_zero_le h.ha.1
 have hk : k < s.lo.length := by
  have h1 := h.ex
  have h2 := h.ok.lo
  unfold exiF at h1
  rw [if_pos (Or.inl rfl)] at h1
  have := of_decide_eq_true h1
  omega
 rw [Int.toNat_natCast] at hp ⊢
 obtain ⟨g, cap, hv, hg1, hg2, hcap, hc⟩ := arow_cell (h.m.row 4 _ rfl) hk
 have c12 := h.m.cell 12 _ rfl
 rw [hv] at c12
 obtain ⟨y, hy⟩ := ex (s.lo.getD k 0)
 rw [hy] at hp hc ⊢
 obtain ⟨n, hn⟩ := ex s.lo.length
 rw [hn] at c12 hk hcap
 generalize pushF [(y, false)] s = R at hp ⊢
 have hk2 : (k : Int) < (n : Int) := by omega
 replace hy := hidden hy
 replace hn := hidden hn
 replace hv := hidden hv
 have XW := (Ext.refl w).alloc (.cells #[.int .i64 1, .int .u32 (k : Int)] 63)
 have BW := Blk.new w [.int .i64 1, .int .u32 (k : Int)] 63
 obtain ⟨z, hz⟩ := ex w.heap.size
 obtain ⟨W, hW⟩ := ex (w.alloc (.cells #[.int .i64 1, .int .u32 (k : Int)] 63))
 rw [hz] at BW
 rw [hW] at XW BW
 have zlt := BW.lt
 obtain ⟨b0, b1⟩ := BW.c2
 have hX := hidden XW
 have d12 := XW.cell c12
 have dk := XW.cell hc
 replace hp := hidden hp
 clear h c12 hc BW XW
 replace hz := hidden hz
 replace hW := hidden hW
 go_enter Tryz.func93, Tryz.ntmps93
 go_wp2_with fail
 rw [hz.out, hW.out]
 refine wp_region_held_drew (S := fun _ => True) (by kernel_rfl) trivial (fun HS => ?_)
 refine tkh 0 (.pointer (some ⟨q, 0, none⟩)) trivial ?_; try simp only [sx]
 refine tkh 1 (.pointer (some ⟨q, 0, none⟩)) trivial ?_; try simp only [sx]
 refine tkh 2 (.pointer (some ⟨q, 0, none⟩)) trivial ?_; try simp only [sx]
 refine tkh 3 (.pointer (some ⟨q, 12, none⟩)) trivial ?_; try simp only [sx]
 refine tkh 5 (.pointer (some ⟨z, 1, none⟩)) trivial ?_; try simp only [sx]
 refine loads2H 4 6 (.slice (some ⟨g, 0, none⟩) n cap) (.int .u32 (k : Int)) rfl rfl rfl rfl (by decide) (by decide) (by kernel_rfl) (by kernel_rfl) (by kernel_rfl) rfl rfl (by go_simp) (by go_simp) (by go_simp) (by go_simp) ?_; try simp only [sx]
 refine tkh 7 (.pointer (some ⟨g, k, none⟩)) trivial ?_; try simp only [sx]
 refine valueH 8 (.int .u32 y) rfl rfl (by kernel_rfl) (by rfl) (w' := W.drew) (by go_simp) trivial ?_; try simp only [sx]
 refine callHP 9 122 #[.int .u32 y] rfl (by kernel_rfl) (by rfl) (by go_simp) (inum_any y _) ?_
 rintro x w1 ⟨rfl, hX1⟩
 have hc := hidden (hX.out.drew.trans hX1)
 clear hX1 d12 dk b0 b1
 refine Or.inl ⟨_, rfl, trivial, ?_⟩
 try simp only [Act.put, sx]
 refine valueH 10 (.slice (some ⟨w1.heap.size, 0, none⟩) 1 1) rfl rfl (by kernel_rfl) (by rfl) (w' := w1.alloc (.cells #[.int .u32 y, .bool false] 166)) (by go_simp) trivial ?_; try simp only [sx]
 refine callHP 11 112 #[.pointer (some ⟨q, 0, none⟩), .slice (some ⟨w1.heap.size, 0, none⟩) 1 1] rfl (by kernel_rfl) (by rfl) (by go_simp) (hp.out w1 hc.out) ?_
 intro x w2 hm
 cases R with
 | stuck => exact hm.elim
 | err e =>
  obtain ⟨rfl, hm⟩ := hm
  exact Or.inr ⟨_, rfl, rfl, rfl, hm⟩
 | go s' =>
  obtain ⟨rfl, hm⟩ := hm
  replace hm := hidden hm
  refine Or.inl ⟨_, rfl, trivial, ?_⟩
  refine wpAnyH_done (by kernel_rfl) ?_ _
  show _
  go_wp2_with fail
  go_end0
  exact ⟨rfl, hm.out⟩
theorem m_dup : Meth 97 5 := by
 intro w B q V X E s arg l v h
 rw [exe5]
 have hll : l.length = 1 := h.ll
 obtain ⟨b, o, cap, rfl, hbq, hbl, hc0, hc1⟩ := h.v0 0 (by omega)
 obtain ⟨⟨x0, t0⟩, hu0⟩ : ∃ u, vl l 0 = u := ⟨_, rfl⟩
 rw [hu0] at hc0 hc1 ⊢
 have hp := fun W c => push2 h.m h.hb h.ok W c (x0, t0) (x0, t0)
 generalize pushF [(x0, t0), (x0, t0)] s = R at hp ⊢
 simp only [Nat.zero_mul, Nat.one_mul, Nat.add_zero] at hc0 hc1
 replace hu0 := hidden hu0
 obtain ⟨n, hn⟩ := ex l.length
 rw [hn] at hll ⊢
 subst hll
 replace hn := hidden hn
 have XW := (Ext.refl w).alloc (.cells #[.int .i64 5, .int .u32 arg] 63)
 have BW := Blk.new w [.int .i64 5, .int .u32 arg] 63
 obtain ⟨z, hz⟩ := ex w.heap.size
 obtain ⟨W, hW⟩ := ex (w.alloc (.cells #[.int .i64 5, .int .u32 arg] 63))
 rw [hz] at BW
 rw [hW] at XW BW
 have zlt := BW.lt
 obtain ⟨b0, b1⟩ := BW.c2
 have hX := hidden XW
 have d0 := XW.cell hc0
 have d1 := XW.cell hc1
 replace hp := hidden hp
 clear h hc0 hc1 BW XW
 replace hz := hidden hz
 replace hW := hidden hW
 go_enter Tryz.func97, Tryz.ntmps97
 go_wp2_with fail
 rw [hz.out, hW.out]
 refine wp_region_held_drew (S := fun _ => True) (by kernel_rfl) trivial (fun HS => ?_)
 refine tkh 0 (.pointer (some ⟨q, 0, none⟩)) trivial ?_; try simp only [sx]
 refine tkh 1 (.slice (some ⟨b, o, none⟩) 1 cap) trivial ?_; try simp only [sx]
 refine tkh 2 (.pointer (some ⟨b, o, none⟩)) trivial ?_; try simp only [sx]
 refine tkh 4 (.slice (some ⟨b, o, none⟩) 1 cap) trivial ?_; try simp only [sx]
 refine tkh 5 (.pointer (some ⟨b, o, none⟩)) trivial ?_; try simp only [sx]
 refine loads2H 3 6 (.agg #[.int .u32 x0, .bool t0]) (.agg #[.int .u32 x0, .bool t0]) rfl rfl rfl rfl (by decide) (by decide) (by kernel_rfl) (by kernel_rfl) (by kernel_rfl) rfl rfl (by go_simp) (by go_simp) (by go_simp) (by go_simp) ?_; try simp only [sx]
 refine valueH 7 (.slice (some ⟨W.heap.size, 0, none⟩) 2 2) rfl rfl (by kernel_rfl) (by rfl) (w' := W.drew.alloc (.cells #[.int .u32 x0, .bool t0, .int .u32 x0, .bool t0] 166)) (by go_simp) trivial ?_; try simp only [sx]
 refine callHP 8 112 #[.pointer (some ⟨q, 0, none⟩), .slice (some ⟨W.heap.size, 0, none⟩) 2 2] rfl (by kernel_rfl) (by rfl) (by go_simp) (hp.out W.drew hX.out.drew) ?_
 intro x w2 hm
 cases R with
 | stuck => exact hm.elim
 | err e =>
  obtain ⟨rfl, hm⟩ := hm
  exact Or.inr ⟨_, rfl, rfl, rfl, hm⟩
 | go s' =>
  obtain ⟨rfl, hm⟩ := hm
  replace hm := hidden hm
  refine Or.inl ⟨_, rfl, trivial, ?_⟩
  refine wpAnyH_done (by kernel_rfl) ?_ _
  show _
  go_wp2_with fail
  go_end0
  exact ⟨rfl, hm.out⟩
theorem m_swap : Meth 99 7 := by
 intro w B q V X E s arg l v h
 rw [exe7]
 have hll : l.length = 2 := h.ll
 obtain ⟨b, o, cap, rfl, hbq, hbl, hc0, hc1⟩ := h.v0 0 (by omega)
 obtain ⟨b', o', cap', he', -, -, hc2, hc3⟩ := h.v0 1 (by omega)
 simp only [Value.slice.injEq, Option.some.injEq, Addr.mk.injEq, and_true, true_and] at he'
 obtain ⟨⟨rfl, rfl⟩, rfl⟩ := he'
 obtain ⟨⟨x1, t1⟩, hu1⟩ : ∃ u, vl l 1 = u := ⟨_, rfl⟩
 rw [hu1] at hc2 hc3 ⊢
 obtain ⟨⟨x0, t0⟩, hu0⟩ : ∃ u, vl l 0 = u := ⟨_, rfl⟩
 rw [hu0] at hc0 hc1 ⊢
 have hp := fun W c => push2 h.m h.hb h.ok W c (x1, t1) (x0, t0)
 generalize pushF [(x1, t1), (x0, t0)] s = R at hp ⊢
 simp only [Nat.zero_mul, Nat.one_mul, Nat.add_zero] at hc0 hc1 hc2 hc3
 replace hu0 := hidden hu0
 replace hu1 := hidden hu1
 obtain ⟨n, hn⟩ := ex l.length
 rw [hn] at hll ⊢
 subst hll
 replace hn := hidden hn
 have XW := (Ext.refl w).alloc (.cells #[.int .i64 7, .int .u32 arg] 63)
 have BW := Blk.new w [.int .i64 7, .int .u32 arg] 63
 obtain ⟨z, hz⟩ := ex w.heap.size
 obtain ⟨W, hW⟩ := ex (w.alloc (.cells #[.int .i64 7, .int .u32 arg] 63))
 rw [hz] at BW
 rw [hW] at XW BW
 have zlt := BW.lt
 obtain ⟨b0, b1⟩ := BW.c2
 have hX := hidden XW
 have d0 := XW.cell hc0
 have d1 := XW.cell hc1
 have d2 := XW.cell hc2
 have d3 := XW.cell hc3
 replace hp := hidden hp
 clear h hc0 hc1 hc2 hc3 BW XW
 replace hz := hidden hz
 replace hW := hidden hW
 go_enter Tryz.func99, Tryz.ntmps99
 go_wp2_with fail
 rw [hz.out, hW.out]
 refine wp_region_held_drew (S := fun _ => True) (by kernel_rfl) trivial (fun HS => ?_)
 refine tkh 0 (.pointer (some ⟨q, 0, none⟩)) trivial ?_; try simp only [sx]
 refine tkh 1 (.slice (some ⟨b, o, none⟩) 2 cap) trivial ?_; try simp only [sx]
 refine tkh 2 (.pointer (some ⟨b, o + 2, none⟩)) trivial ?_; try simp only [sx]
 refine tkh 4 (.slice (some ⟨b, o, none⟩) 2 cap) trivial ?_; try simp only [sx]
 refine tkh 5 (.pointer (some ⟨b, o, none⟩)) trivial ?_; try simp only [sx]
 refine loads2H 3 6 (.agg #[.int .u32 x1, .bool t1]) (.agg #[.int .u32 x0, .bool t0]) rfl rfl rfl rfl (by decide) (by decide) (by kernel_rfl) (by kernel_rfl) (by kernel_rfl) rfl rfl (by go_simp) (by go_simp) (by go_simp) (by go_simp) ?_; try simp only [sx]
 refine valueH 7 (.slice (some ⟨W.heap.size, 0, none⟩) 2 2) rfl rfl (by kernel_rfl) (by rfl) (w' := W.drew.alloc (.cells #[.int .u32 x1, .bool t1, .int .u32 x0, .bool t0] 166)) (by go_simp) trivial ?_; try simp only [sx]
 refine callHP 8 112 #[.pointer (some ⟨q, 0, none⟩), .slice (some ⟨W.heap.size, 0, none⟩) 2 2] rfl (by kernel_rfl) (by rfl) (by go_simp) (hp.out W.drew hX.out.drew) ?_
 intro x w2 hm
 cases R with
 | stuck => exact hm.elim
 | err e =>
  obtain ⟨rfl, hm⟩ := hm
  exact Or.inr ⟨_, rfl, rfl, rfl, hm⟩
 | go s' =>
  obtain ⟨rfl, hm⟩ := hm
  replace hm := hidden hm
  refine Or.inl ⟨_, rfl, trivial, ?_⟩
  refine wpAnyH_done (by kernel_rfl) ?_ _
  show _
  go_wp2_with fail
  go_end0
  exact ⟨rfl, hm.out⟩
theorem MSt.arr_at {Y : Lay} {w : World} {B q : Nat} {V : Vs} {X : EV} {E : Env} {s : MS} (h : MSt Y w B q V X E s) {k : Nat} (hk : k < s.ar.length) :
  ∃ ga ca v a, V.arr = .slice (some ⟨ga, 0, none⟩) s.ar.length ca ∧ s.ar.length ≤ ca ∧ w.cell? ⟨ga, k, none⟩ = some v ∧ V.ars[k]? = some v ∧ s.ar[k]? = some a ∧ s.ar.getD k [] = a ∧ (arow v a).own w B := by
 have hr := h.row 0 _ rfl
 unfold Row.own at hr
 simp only at hr
 obtain ⟨x, cap, hv, hcap, -, hg⟩ := own_shape hr
 obtain ⟨g, rfl, -, -⟩ := hg (by omega)
 have hl := h.al
 have h1 : V.ars[k]? = some (V.ars[k]'(by omega)) := List.getElem?_eq_getElem _
 have h2 : s.ar[k]? = some (s.ar[k]'hk) := List.getElem?_eq_getElem _
 refine ⟨g, cap, V.ars[k]'(by omega), s.ar[k]'hk, hv, hcap, own_cell (by rw [hv] at hr; exact hr) k _ h1, h1, h2, by rw [List.getD_eq_getElem?_getD, h2]; rfl, h.row (6 + k) _ (rows_ar h1 h2)⟩
theorem ielem_any (w : World) (B q : Nat) (V : Vs) (X : EV) (E : Env) (s : MS) (h : MSt LP w B q V X E s) (hs : OkS E s) (k : Nat) (i : Int) (hi : U32 i) (hk : k < s.ar.length) (ha : s.ar.length ≤ 8) :
  Calls Tryz.prog 123 #[.pointer (some ⟨q, 0, none⟩), .int .u32 (k : Int), .int .u32 i] w fun x w' => w' = w ∧ if ((s.ar.getD k []).length : Int) ≤ i then x = failI 16
   else ∃ g cap, x = .returned (.pointer (some ⟨g, i.toNat, none⟩)) ∧ V.ars[k]? = some (.slice (some ⟨g, 0, none⟩) (s.ar.getD k []).length cap) ∧ w.cell? ⟨g, i.toNat, none⟩ = some (.int .u32 ((s.ar.getD k []).getD i.toNat 0)) := by
 obtain ⟨ga, ca, v, a, hva, hca, c1, h1, h2, h3, h4⟩ := h.arr_at hk
 have c0 := h.cell 0 _ rfl
 rw [hva] at c0
 rw [h3]
 have ho := h4
 unfold Row.own arow at ho
 simp only at ho
 obtain ⟨x, cap, rfl, hcap, hcap2, hg⟩ := own_shape ho
 have hd1 := hidden (idem_true 16)
 have hd0 := hidden (idem_false 16)
 obtain ⟨n, hn⟩ := ex s.ar.length
 obtain ⟨m, hm⟩ := ex a.length
 rw [hn] at c0 hk hca ha
 rw [hm] at c1 hcap h1 ⊢
 have hk2 : (k : Int) < (n : Int) := by omega
 have hw : IntKind.i64.wrap i = i := IntWalk.i64_in _ (by have := hi.1; have := hi.2; omega)
 have i0 := hi.1
 by_cases hlt : (m : Int) ≤ i
 ·simp only [if_pos hlt]
  have hdec : decide (i < (m : Int)) = false := decide_eq_false (by omega)
  replace hn := hidden hn
  replace hm := hidden hm
  clear h h1 h2 h3 h4 ho hg hva hi hlt i0
  go_enter Tryz.func123, Tryz.ntmps123
  go_wp2_with fail
  refine (hd0.out _).mono ?_
  rintro x w1 ⟨rfl, hw1⟩
  rw [hw1]
  unfold failI
  go_wp2_with fail
  exact ⟨rfl, rfl, rfl⟩
 ·simp only [if_neg hlt]
  obtain ⟨g, rfl, -, -⟩ := hg (by omega)
  obtain ⟨j, rfl⟩ := Int.eq_ofNat_of_zero_le i0
  have hjm : j < m := by omega
  have hcell := own_cell ho j (.int .u32 (a.getD j 0)) (by rw [List.getElem?_map, List.getElem?_eq_getElem (by omega), List.getD_eq_getElem?_getD, List.getElem?_eq_getElem (by omega)]; rfl)
  have hdec : decide ((j : Int) < (m : Int)) = true := decide_eq_true (by omega)
  have hj2 : (j : Int) < (m : Int) := by omega
  replace hcell := hidden hcell
  replace h1 := hidden h1
  replace hn := hidden hn
  replace hm := hidden hm
  clear h h2 h3 h4 ho hg hva hi hlt i0
  go_enter Tryz.func123, Tryz.ntmps123
  go_wp2_with fail
  refine (hd1.out _).mono ?_
  rintro x w1 ⟨rfl, hw1⟩
  rw [hw1]
  go_wp2_with fail
  go_ret
  exact ⟨rfl, g, cap, rfl, by rw [h1.out], hcell.out⟩
theorem m_input : Meth 105 32 := by
 intro w B q V X E s arg l v h
 rw [exe32]
 have hp := fun W c => push1 h.m h.hb h.ok W c E.inp false
 have c6 := h.m.cell 6 _ rfl
 generalize pushF [(E.inp, false)] s = R at hp ⊢
 obtain ⟨y, hy⟩ := ex E.inp
 rw [hy] at hp c6
 replace hy := hidden hy
 have XW := (Ext.refl w).alloc (.cells #[.int .i64 32, .int .u32 arg] 63)
 have d6 := XW.cell c6
 have hX := hidden XW
 replace hp := hidden hp
 clear h c6 XW
 go_enter Tryz.func105, Tryz.ntmps105
 go_wp2_with fail
 refine (inum_any y _).mono ?_
 rintro x w1 ⟨rfl, hX1⟩
 have hc := hidden (hX.out.trans hX1)
 clear hX1
 go_wp2_with fail
 refine (hp.out w1 hc.out).mono ?_
 intro x w2 hm
 cases R with
 | stuck => exact hm.elim
 | err e =>
  obtain ⟨rfl, hm⟩ := hm
  replace hm := hidden hm
  unfold failI
  go_wp2_with fail
  exact ⟨rfl, rfl, hm.out⟩
 | go s' =>
  obtain ⟨rfl, hm⟩ := hm
  replace hm := hidden hm
  go_wp2_with fail
  go_end0
  exact ⟨rfl, hm.out⟩
theorem m_ended : Meth 106 33 := by
 intro w B q V X E s arg l v h
 rw [exe33]
 have hp := fun W c => push1 h.m h.hb h.ok W c (if E.ended = true then 1 else 0) true
 have c7 := h.m.cell 7 _ rfl
 generalize pushF [((if E.ended = true then 1 else 0), true)] s = R at hp ⊢
 obtain ⟨y, hy⟩ := ex E.ended
 rw [hy] at hp c7
 have hfl := fun W => iflag_any y W
 obtain ⟨f, hf⟩ : ∃ f : Int, (if y = true then (1 : Int) else 0) = f := ⟨_, rfl⟩
 simp only [hf] at hfl hp
 replace hfl := hidden hfl
 replace hf := hidden hf
 replace hy := hidden hy
 have XW := (Ext.refl w).alloc (.cells #[.int .i64 33, .int .u32 arg] 63)
 have d7 := XW.cell c7
 have hX := hidden XW
 replace hp := hidden hp
 clear h c7 XW
 go_enter Tryz.func106, Tryz.ntmps106
 go_wp2_with fail
 refine (hfl.out _).mono ?_
 rintro x w1 ⟨rfl, hX1⟩
 have hc := hidden (hX.out.trans hX1)
 clear hX1
 go_wp2_with fail
 refine (hp.out w1 hc.out).mono ?_
 intro x w2 hm
 cases R with
 | stuck => exact hm.elim
 | err e =>
  obtain ⟨rfl, hm⟩ := hm
  replace hm := hidden hm
  unfold failI
  go_wp2_with fail
  exact ⟨rfl, rfl, hm.out⟩
 | go s' =>
  obtain ⟨rfl, hm⟩ := hm
  replace hm := hidden hm
  go_wp2_with fail
  go_end0
  exact ⟨rfl, hm.out⟩
theorem m_drop : Meth 98 6 := by
 intro w B q V X E s arg l v h
 rw [exe6]
 have hM := hidden (h.m.ext ((Ext.refl w).alloc (.cells #[.int .i64 6, .int .u32 arg] 63)))
 have hX := hidden ((Ext.refl w).alloc (.cells #[.int .i64 6, .int .u32 arg] 63))
 clear h
 go_enter Tryz.func98, Tryz.ntmps98
 go_wp2_with fail
 go_end0
 exact ⟨rfl, V, hM.out, Chg.of_ext _ hX.out, ToV.refl _ _ _⟩
theorem m_store : Meth 94 2 := by
 intro w B q V X E s arg l v h
 rw [exe2]
 have hll : l.length = 1 := h.ll
 obtain ⟨b, o, capl, rfl, hbq, hbl, hc0, -⟩ := h.v0 0 (by omega)
 rw [hll]
 obtain ⟨k, rfl⟩ := Int.eq_ofNat_of_zero_le h.ha.1
 rw [Int.toNat_natCast]
 have hk : k < s.lo.length := by
  have h1 := h.ex
  have h2 := h.ok.lo
  unfold exiF at h1
  rw [if_pos (Or.inr rfl)] at h1
  have := of_decide_eq_true h1
  omega
 obtain ⟨g, cap, hv, hg1, hg2, hcap, hc⟩ := arow_cell (h.m.row 4 _ rfl) hk
 have hown := h.m.row 4 _ rfl
 have hf := arow_frozen (k := k) (by have := hown; unfold Row.own arow at this; simp only at this; rw [hv] at this; exact this)
 have c12 := h.m.cell 12 _ rfl
 rw [hv] at c12
 obtain ⟨y, hy⟩ := ex ((vl l 0).1)
 rw [hy] at hc0 ⊢
 have hall := fun W (c : Ext w W) => (h.m.ext c).cellr (i := 4) (g := g) (cap := cap) (n := s.lo.length) (sz := 1) (t := 42) (cs := s.lo.map (Value.int .u32)) (s' := { s with lo := s.lo.set k y }) (by rw [← hv]; rfl) k (.int .u32 y) (by unfold rowsG arow; simp only [List.map_set, List.length_set]; rw [hv]; rfl) rfl rfl
 replace hall := hidden hall
 obtain ⟨n, hn⟩ := ex s.lo.length
 rw [hn] at c12 hk hcap
 have hk2 : (k : Int) < (n : Int) := by omega
 simp only [Nat.zero_mul, Nat.add_zero] at hc0
 replace hy := hidden hy
 replace hn := hidden hn
 replace hv := hidden hv
 have XW := (Ext.refl w).alloc (.cells #[.int .i64 2, .int .u32 (k : Int)] 63)
 have BW := Blk.new w [.int .i64 2, .int .u32 (k : Int)] 63
 obtain ⟨z, hz⟩ := ex w.heap.size
 obtain ⟨W, hW⟩ := ex (w.alloc (.cells #[.int .i64 2, .int .u32 (k : Int)] 63))
 rw [hz] at BW
 rw [hW] at XW BW
 have zlt := BW.lt
 obtain ⟨b0, b1⟩ := BW.c2
 have hX := hidden XW
 have d12 := XW.cell c12
 have dk := XW.cell hc
 have fk := XW.frozen hc hf
 have d0 := XW.cell hc0
 obtain ⟨m1, m2⟩ := hall.out W.drew XW.drew
 replace m1 := hidden m1
 replace m2 := hidden m2
 clear h c12 hc hf hc0 hown BW XW hall
 replace hz := hidden hz
 replace hW := hidden hW
 go_enter Tryz.func94, Tryz.ntmps94
 go_wp2_with fail
 rw [hz.out, hW.out]
 go_still_tail 11, (by kernel_rfl)
 change wpList _ _ _ _ _ W.drew
 go_wp2_with fail
 go_end0
 exact ⟨rfl, V, m1.out, (Chg.of_ext _ hX.out.drew).trans m2.out (fun x hx => Or.inl hx), ToV.refl _ _ _⟩
theorem m_context : Meth 108 35 := by
 intro w B q V X E s arg l v h
 rw [exe35]
 have hll : l.length = 1 := h.ll
 obtain ⟨b, o, capl, rfl, hbq, hbl, hc0, -⟩ := h.v0 0 (by omega)
 rw [hll]
 obtain ⟨k, rfl⟩ := Int.eq_ofNat_of_zero_le h.ha.1
 rw [Int.toNat_natCast]
 have hk : k < s.cx.length := by
  have h1 := h.ctx rfl
  have h2 := h.ok.cx
  omega
 obtain ⟨g, cap, hv, hg1, hg2, hcap, hc⟩ := arow_cell (h.m.row 1 _ rfl) hk
 have hown := h.m.row 1 _ rfl
 have hf := arow_frozen (k := k) (by have := hown; unfold Row.own arow at this; simp only at this; rw [hv] at this; exact this)
 have c12 := h.m.cell 1 _ rfl
 rw [hv] at c12
 obtain ⟨y, hy⟩ := ex ((vl l 0).1)
 rw [hy] at hc0 ⊢
 have hall := fun W (c : Ext w W) => (h.m.ext c).cellr (i := 1) (g := g) (cap := cap) (n := s.cx.length) (sz := 1) (t := 42) (cs := s.cx.map (Value.int .u32)) (s' := { s with cx := s.cx.set k y }) (by rw [← hv]; rfl) k (.int .u32 y) (by unfold rowsG arow; simp only [List.map_set, List.length_set]; rw [hv]; rfl) rfl rfl
 replace hall := hidden hall
 obtain ⟨n, hn⟩ := ex s.cx.length
 rw [hn] at c12 hk hcap
 have hk2 : (k : Int) < (n : Int) := by omega
 simp only [Nat.zero_mul, Nat.add_zero] at hc0
 replace hy := hidden hy
 replace hn := hidden hn
 replace hv := hidden hv
 have XW := (Ext.refl w).alloc (.cells #[.int .i64 35, .int .u32 (k : Int)] 63)
 have BW := Blk.new w [.int .i64 35, .int .u32 (k : Int)] 63
 obtain ⟨z, hz⟩ := ex w.heap.size
 obtain ⟨W, hW⟩ := ex (w.alloc (.cells #[.int .i64 35, .int .u32 (k : Int)] 63))
 rw [hz] at BW
 rw [hW] at XW BW
 have zlt := BW.lt
 obtain ⟨b0, b1⟩ := BW.c2
 have hX := hidden XW
 have d12 := XW.cell c12
 have dk := XW.cell hc
 have fk := XW.frozen hc hf
 have d0 := XW.cell hc0
 obtain ⟨m1, m2⟩ := hall.out W.drew XW.drew
 replace m1 := hidden m1
 replace m2 := hidden m2
 clear h c12 hc hf hc0 hown BW XW hall
 replace hz := hidden hz
 replace hW := hidden hW
 go_enter Tryz.func108, Tryz.ntmps108
 go_wp2_with fail
 rw [hz.out, hW.out]
 go_still_tail 12, (by kernel_rfl)
 change wpList _ _ _ _ _ W.drew
 go_wp2_with fail
 go_end0
 exact ⟨rfl, V, m1.out, (Chg.of_ext _ hX.out.drew).trans m2.out (fun x hx => Or.inl hx), ToV.refl _ _ _⟩
theorem m_get : Meth 95 3 := by
 intro w B q V X E s arg l v h
 rw [exe3]
 have hll : l.length = 1 := h.ll
 obtain ⟨b, o, capl, rfl, hbq, hbl, hc0, -⟩ := h.v0 0 (by omega)
 rw [hll]
 obtain ⟨k, rfl⟩ := Int.eq_ofNat_of_zero_le h.ha.1
 have hA := h.okE.A8
 have hA2 := h.ok.ar
 have hk : k < s.ar.length := by
  have h1 := h.ex
  unfold exiF at h1
  rw [if_neg (by decide), if_pos (Or.inl rfl)] at h1
  have := of_decide_eq_true h1
  omega
 have hi : U32 (vl l 0).1 := u32_vl h.lu 0
 have hel := fun W (c : Ext w W) => ielem_any W B q V X E s (h.m.ext c) h.ok k (vl l 0).1 hi hk (by omega)
 obtain ⟨i, hie⟩ := ex ((vl l 0).1)
 rw [hie] at hc0 hel hi ⊢
 unfold getF
 rw [Int.toNat_natCast]
 simp only [Nat.zero_mul, Nat.add_zero] at hc0
 replace hie := hidden hie
 have XW := (Ext.refl w).alloc (.cells #[.int .i64 3, .int .u32 (k : Int)] 63)
 have BW := Blk.new w [.int .i64 3, .int .u32 (k : Int)] 63
 obtain ⟨z, hz⟩ := ex w.heap.size
 obtain ⟨W, hW⟩ := ex (w.alloc (.cells #[.int .i64 3, .int .u32 (k : Int)] 63))
 rw [hz] at BW
 rw [hW] at XW BW
 have zlt := BW.lt
 obtain ⟨b0, b1⟩ := BW.c2
 have hX := hidden XW
 have d0 := XW.cell hc0
 replace hel := hel W.drew XW.drew
 by_cases hlt : ((s.ar.getD k []).length : Int) ≤ i
 ·simp only [if_pos hlt] at hel ⊢
  replace hel := hidden hel
  clear h hc0 BW XW hlt
  replace hz := hidden hz
  replace hW := hidden hW
  go_enter Tryz.func95, Tryz.ntmps95
  go_wp2_with fail
  rw [hz.out, hW.out]
  refine wp_region_held_drew (S := fun _ => True) (by kernel_rfl) trivial (fun HS => ?_)
  refine tkh 0 (.pointer (some ⟨q, 0, none⟩)) trivial ?_; try simp only [sx]
  refine tkh 1 (.pointer (some ⟨q, 0, none⟩)) trivial ?_; try simp only [sx]
  refine tkh 2 (.pointer (some ⟨z, 1, none⟩)) trivial ?_; try simp only [sx]
  refine tkh 4 (.slice (some ⟨b, o, none⟩) 1 capl) trivial ?_; try simp only [sx]
  refine tkh 5 (.pointer (some ⟨b, o, none⟩)) trivial ?_; try simp only [sx]
  refine tkh 6 (.pointer (some ⟨b, o, none⟩)) trivial ?_; try simp only [sx]
  refine loads2H 3 7 (.int .u32 (k : Int)) (.int .u32 i) rfl rfl rfl rfl (by decide) (by decide) (by kernel_rfl) (by kernel_rfl) (by kernel_rfl) rfl rfl (by go_simp) (by go_simp) (by go_simp) (by go_simp) ?_; try simp only [sx]
  refine callHP 8 123 #[.pointer (some ⟨q, 0, none⟩), .int .u32 (k : Int), .int .u32 i] rfl (by kernel_rfl) (by rfl) (by go_simp) (hel.out) ?_
  rintro x w1 ⟨hw1, rfl⟩
  subst hw1
  exact Or.inr ⟨_, rfl, rfl, rfl, Chg.of_ext _ hX.out.drew⟩
 ·simp only [if_neg hlt] at hel ⊢
  have hp := fun W c => push1 h.m h.hb h.ok W c ((s.ar.getD k []).getD i.toNat 0) false
  obtain ⟨y, hy⟩ := ex ((s.ar.getD k []).getD i.toNat 0)
  obtain ⟨ga, ca, v, a, -, -, -, hv1, hv2, hv3, hv4⟩ := h.m.arr_at hk
  have i0 := hi.1
  obtain ⟨g, cap, rfl, -, -, -, hcg⟩ := arow_cell (k := i.toNat) hv4 (by rw [hv3] at hlt; omega)
  have dg := XW.cell hcg
  rw [← hv3, hy] at dg
  have hel2 : Calls Tryz.prog 123 #[.pointer (some ⟨q, 0, none⟩), .int .u32 (k : Int), .int .u32 i] W.drew fun x w' => w' = W.drew ∧ x = .returned (.pointer (some ⟨g, i.toNat, none⟩)) := by
   refine hel.mono ?_
   rintro x w' ⟨hw', g', cap', hx, he, -⟩
   rw [hv1] at he
   simp only [Option.some.injEq, Value.slice.injEq, Addr.mk.injEq, and_true, true_and] at he
   obtain ⟨rfl, -⟩ := he
   exact ⟨hw', hx⟩
  rw [hy] at hp ⊢
  generalize pushF [(y, false)] s = R at hp ⊢
  clear hel
  have hel := hidden hel2
  replace hp := hidden hp
  replace hy := hidden hy
  clear hel2 h hc0 BW XW hlt hv1 hv2 hv3 hv4 hcg hi
  replace hz := hidden hz
  replace hW := hidden hW
  go_enter Tryz.func95, Tryz.ntmps95
  go_wp2_with fail
  rw [hz.out, hW.out]
  refine wp_region_held_drew (S := fun _ => True) (by kernel_rfl) trivial (fun HS => ?_)
  refine tkh 0 (.pointer (some ⟨q, 0, none⟩)) trivial ?_; try simp only [sx]
  refine tkh 1 (.pointer (some ⟨q, 0, none⟩)) trivial ?_; try simp only [sx]
  refine tkh 2 (.pointer (some ⟨z, 1, none⟩)) trivial ?_; try simp only [sx]
  refine tkh 4 (.slice (some ⟨b, o, none⟩) 1 capl) trivial ?_; try simp only [sx]
  refine tkh 5 (.pointer (some ⟨b, o, none⟩)) trivial ?_; try simp only [sx]
  refine tkh 6 (.pointer (some ⟨b, o, none⟩)) trivial ?_; try simp only [sx]
  refine loads2H 3 7 (.int .u32 (k : Int)) (.int .u32 i) rfl rfl rfl rfl (by decide) (by decide) (by kernel_rfl) (by kernel_rfl) (by kernel_rfl) rfl rfl (by go_simp) (by go_simp) (by go_simp) (by go_simp) ?_; try simp only [sx]
  refine callHP 8 123 #[.pointer (some ⟨q, 0, none⟩), .int .u32 (k : Int), .int .u32 i] rfl (by kernel_rfl) (by rfl) (by go_simp) (hel.out) ?_
  rintro x w1 ⟨hw1, rfl⟩
  subst hw1
  refine Or.inl ⟨_, rfl, trivial, ?_⟩
  try simp only [Act.put, sx]
  refine tkh 9 (.pointer (some ⟨g, i.toNat, none⟩)) trivial ?_; try simp only [sx]
  refine valueH 10 (.int .u32 y) rfl rfl (by kernel_rfl) (by rfl) (w' := W.drew) (by go_simp) trivial ?_; try simp only [sx]
  refine callHP 11 122 #[.int .u32 y] rfl (by kernel_rfl) (by rfl) (by go_simp) (inum_any y _) ?_
  rintro x w1 ⟨rfl, hX1⟩
  have hc := hidden (hX.out.drew.trans hX1)
  clear hX1 d0 b0 b1 dg
  refine Or.inl ⟨_, rfl, trivial, ?_⟩
  try simp only [Act.put, sx]
  refine valueH 12 (.slice (some ⟨w1.heap.size, 0, none⟩) 1 1) rfl rfl (by kernel_rfl) (by rfl) (w' := w1.alloc (.cells #[.int .u32 y, .bool false] 166)) (by go_simp) trivial ?_; try simp only [sx]
  refine callHP 13 112 #[.pointer (some ⟨q, 0, none⟩), .slice (some ⟨w1.heap.size, 0, none⟩) 1 1] rfl (by kernel_rfl) (by rfl) (by go_simp) (hp.out w1 hc.out) ?_
  intro x w2 hm
  cases R with
  | stuck => exact hm.elim
  | err e =>
   obtain ⟨rfl, hm⟩ := hm
   exact Or.inr ⟨_, rfl, rfl, rfl, hm⟩
  | go s' =>
   obtain ⟨rfl, hm⟩ := hm
   replace hm := hidden hm
   refine Or.inl ⟨_, rfl, trivial, ?_⟩
   refine wpAnyH_done (by kernel_rfl) ?_ _
   show _
   go_wp2_with fail
   go_end0
   exact ⟨rfl, hm.out⟩
theorem EnvM.arr_at {w : World} {B : Nat} {X : EV} {E : Env} (h : EnvM w B X E) {k : Nat} (hk : k < E.A.length) : ∃ b o cap, X.a = .slice (some ⟨b, o, none⟩) E.A.length cap ∧ E.A.length ≤ cap ∧ b < w.heap.size ∧ b < B ∧ w.cell? ⟨b, o + k * 2, none⟩ = some (.bool (E.A.getD k (false, 0)).1) ∧ w.cell? ⟨b, o + k * 2 + 1, none⟩ = some (.int .i64 (E.A.getD k (false, 0)).2) := by
 have hr := h.a
 have hoff := h.oa
 unfold Arr at hr
 obtain ⟨a, cap, hv, h1, -, -⟩ := Rd.shape hr
 rw [hv] at hr hoff
 obtain ⟨b, o, rfl, hb, -⟩ := hr.cells (by omega)
 have hx : E.A[k]? = some (E.A.getD k (false, 0)) := by rw [List.getD_eq_getElem?_getD, List.getElem?_eq_getElem hk]; rfl
 have h2 := rd2_at (E := cA) cA_len hr k _ hx _ _ rfl
 exact ⟨b, o, cap, hv, h1, hb, hoff b (by omega) rfl, h2.1, h2.2⟩
theorem EnvM.code_at {w : World} {B : Nat} {X : EV} {E : Env} (h : EnvM w B X E) {k : Nat} (hk : k < E.C.length) : ∃ b o cap, X.c = .slice (some ⟨b, o, none⟩) E.C.length cap ∧ E.C.length ≤ cap ∧ b < w.heap.size ∧ b < B ∧ w.cell? ⟨b, o + k * 2, none⟩ = some (.int .i64 (opC E.C k)) ∧ w.cell? ⟨b, o + k * 2 + 1, none⟩ = some (.int .u32 (E.C.getD k (0, 0)).2) := by
 have hr := h.c
 have hoff := h.oc
 unfold Cod at hr
 obtain ⟨a, cap, hv, h1, -, -⟩ := Rd.shape hr
 rw [hv] at hr hoff
 obtain ⟨b, o, rfl, hb, -⟩ := hr.cells (by omega)
 have hx : E.C[k]? = some (E.C.getD k (0, 0)) := by rw [List.getD_eq_getElem?_getD, List.getElem?_eq_getElem hk]; rfl
 have h2 := rd2_at (E := cI) cI_len hr k _ hx _ _ rfl
 exact ⟨b, o, cap, hv, h1, hb, hoff b (by omega) rfl, h2.1, h2.2⟩
theorem EnvM.part_at {w : World} {B : Nat} {X : EV} {E : Env} (h : EnvM w B X E) {k : Nat} (hk : k < E.P.length) : ∃ b o cap, X.p = .slice (some ⟨b, o, none⟩) E.P.length cap ∧ E.P.length ≤ cap ∧ b < w.heap.size ∧ b < B ∧ w.cell? ⟨b, o + k, none⟩ = some (.int .i64 (E.P.getD k 0)) := by
 have hr := h.p
 have hoff := h.op
 unfold RdP at hr
 obtain ⟨a, cap, hv, h1, -, -⟩ := Rd.shape hr
 rw [hv] at hr hoff
 obtain ⟨b, o, rfl, hb, hc⟩ := hr.cells (by omega)
 refine ⟨b, o, cap, hv, h1, hb, hoff b (by omega) rfl, ?_⟩
 have := hc k (by simpa using hk)
 rw [this]
 congr 1
 simp [List.getD, hk]
theorem m_put : Meth 96 4 := by
 intro w B q V X E s arg l v h
 rw [exe4]
 have hll : l.length = 2 := h.ll
 obtain ⟨b, o, capl, rfl, hbq, hbl, hc0, -⟩ := h.v0 0 (by omega)
 obtain ⟨b', o', cap', he', -, -, hc2, -⟩ := h.v0 1 (by omega)
 simp only [Value.slice.injEq, Option.some.injEq, Addr.mk.injEq, and_true, true_and] at he'
 obtain ⟨⟨rfl, rfl⟩, rfl⟩ := he'
 rw [hll]
 obtain ⟨k, rfl⟩ := Int.eq_ofNat_of_zero_le h.ha.1
 have hA := h.okE.A8
 have hA2 := h.ok.ar
 have hk : k < s.ar.length := by
  have h1 := h.ex
  unfold exiF at h1
  rw [if_neg (by decide), if_pos (Or.inr rfl)] at h1
  have := of_decide_eq_true h1
  omega
 have hi : U32 (vl l 0).1 := u32_vl h.lu 0
 have hx : U32 (vl l 1).1 := u32_vl h.lu 1
 have hel := fun W (c : Ext w W) => ielem_any W B q V X E s (h.m.ext c) h.ok k (vl l 0).1 hi hk (by omega)
 obtain ⟨bA, oA, capA, hvA, hcA, -, -, hcw, -⟩ := h.m.env.arr_at (k := k) (by omega)
 have c2 := h.m.cell 2 _ rfl
 rw [hvA] at c2
 obtain ⟨i, hie⟩ := ex ((vl l 0).1)
 obtain ⟨y0, hye⟩ := ex ((vl l 1).1)
 obtain ⟨wd, hwd⟩ := ex ((E.A.getD k (false, 0)).1)
 rw [hie] at hc0 hel hi ⊢
 rw [hye] at hc2 hx ⊢
 rw [hwd] at hcw
 unfold putF
 rw [Int.toNat_natCast, hwd]
 simp only [Nat.zero_mul, Nat.one_mul, Nat.add_zero] at hc0 hc2
 obtain ⟨R, hR⟩ : ∃ R, (if ((s.ar.getD k []).length : Int) ≤ i then Rs.err 16 else .go { s with ar := s.ar.set k ((s.ar.getD k []).set i.toNat (if wd = true then y0 else y0 % 256)) }) = R := ⟨_, rfl⟩
 rw [hR]
 replace hR := hidden hR
 obtain ⟨nA, hnA⟩ := ex E.A.length
 rw [hnA] at c2 hcA hA hA2
 have hkA : (k : Int) < (nA : Int) := by omega
 have hy0 := hx.1
 have XW := (Ext.refl w).alloc (.cells #[.int .i64 4, .int .u32 (k : Int)] 63)
 have BW := Blk.new w [.int .i64 4, .int .u32 (k : Int)] 63
 have b1 := BW.cell 1 _ rfl
 have zlt := BW.lt
 have d0 := XW.cell hc0
 have d2 := XW.cell hc2
 have dc := XW.cell c2
 have dw := XW.cell hcw
 have hX := hidden XW
 replace hie := hidden hie
 replace hye := hidden hye
 replace hwd := hidden hwd
 replace hnA := hidden hnA
 replace hvA := hidden hvA
 replace hx := hidden hx
 cases wd
 ·replace hel := hidden hel
  have hMx := hidden h
  clear h hc0 hc2 c2 hcw BW XW
  go_enter Tryz.func96, Tryz.ntmps96
  go_wp2_with fail
  go_quiet (fail)
  all_goals go_wp2_with fail
  obtain ⟨z, hz⟩ := ex w.heap.size
  obtain ⟨W, hW⟩ := ex (w.alloc (.cells #[.int .i64 4, .int .u32 (k : Int)] 63))
  simp only [hz, hW] at b1 zlt d0 d2 dc dw hX ⊢
  clear d2 dc dw
  replace hz := hidden hz
  replace hW := hidden hW
  have hX3 := hX.out.drewN nq
  have b1' : (W.drewN nq).cell? ⟨z, 1, none⟩ = some (.int .u32 (k : Int)) := b1
  have d0' : (W.drewN nq).cell? ⟨b, o, none⟩ = some (.int .u32 i) := d0
  obtain ⟨W3, hW3⟩ := ex (W.drewN nq)
  rw [hW3] at hX3 b1' d0' ⊢
  have hX2 := hidden hX3.drew
  replace hW3 := hidden hW3
  clear b1 d0 hX3
  replace hel := hel.out W3.drew hX2.out
  by_cases hlt : ((s.ar.getD k []).length : Int) ≤ i
  ·simp only [if_pos hlt] at hel ⊢
   replace hel := hidden hel
   replace hlt := hidden hlt
   refine wp_region_held_drew (S := fun _ => True) (by kernel_rfl) trivial (fun HS => ?_)
   refine tkh 0 (.pointer (some ⟨q, 0, none⟩)) trivial ?_; try simp only [sx]
   refine tkh 1 (.pointer (some ⟨z, 1, none⟩)) trivial ?_; try simp only [sx]
   refine tkh 3 (.slice (some ⟨b, o, none⟩) 2 capl) trivial ?_; try simp only [sx]
   refine tkh 4 (.pointer (some ⟨b, o, none⟩)) trivial ?_; try simp only [sx]
   refine tkh 5 (.pointer (some ⟨b, o, none⟩)) trivial ?_; try simp only [sx]
   refine tkh 8 (.int .u32 (y0 % 256)) trivial ?_; try simp only [sx]
   refine loads2H 2 6 (.int .u32 (k : Int)) (.int .u32 i) rfl rfl rfl rfl (by decide) (by decide) (by kernel_rfl) (by kernel_rfl) (by kernel_rfl) rfl rfl (by go_simp) (by go_simp) (by go_simp) (by go_simp) ?_; try simp only [sx]
   refine callHP 7 123 #[.pointer (some ⟨q, 0, none⟩), .int .u32 (k : Int), .int .u32 i] rfl (by kernel_rfl) (by rfl) (by go_simp) (hel.out) ?_
   rintro x w1 ⟨hw1, rfl⟩
   subst hw1
   refine Or.inr ⟨_, rfl, rfl, ?_⟩
   show MP _ _ _ _ _ _ R _ _
   rw [← hR.out, if_pos hlt.out]
   exact ⟨rfl, Chg.of_ext _ hX2.out⟩
  ·simp only [if_neg hlt] at hel ⊢
   obtain ⟨ga, ca, v, a, -, -, -, hv1, hv2, hv3, hv4⟩ := hMx.out.m.arr_at hk
   have i0 := hi.1
   obtain ⟨g, cap, rfl, -, -, -, hcg⟩ := arow_cell (k := i.toNat) hv4 (by rw [hv3] at hlt; omega)
   have dg := hX2.out.cell hcg
   have fg := hX2.out.frozen hcg (arow_frozen (by have := hv4; unfold Row.own arow at this; simp only at this; exact this))
   have hel2 : Calls Tryz.prog 123 #[.pointer (some ⟨q, 0, none⟩), .int .u32 (k : Int), .int .u32 i] W3.drew fun x w' => w' = W3.drew ∧ x = .returned (.pointer (some ⟨g, i.toNat, none⟩)) := by
    refine hel.mono ?_
    rintro x w' ⟨hw', g', cap', hx, he, -⟩
    rw [hv1] at he
    simp only [Option.some.injEq, Value.slice.injEq, Addr.mk.injEq, and_true, true_and] at he
    obtain ⟨rfl, -⟩ := he
    exact ⟨hw', hx⟩
   obtain ⟨m1, m2⟩ := (hMx.out.m.ext hX2.out).cellr (i := 6 + k) (g := g) (cap := cap) (n := a.length) (sz := 1) (t := 42) (cs := a.map (Value.int .u32)) (s' := { s with ar := s.ar.set k (a.set i.toNat (y0 % 256)) }) (rows_ar hv1 hv2) i.toNat (.int .u32 (y0 % 256)) (by rw [rows_ar_set hv1]; unfold arow; simp only [List.map_set, List.length_set]) (by simp) rfl
   rw [← hv3] at m1
   replace m1 := hidden m1
   replace m2 := hidden m2
   clear hel
   have hel := hidden hel2
   replace hlt := hidden hlt
   clear hel2 hv1 hv2 hv3 hv4 hcg hi hMx
   refine wp_region_held_drew (S := fun _ => True) (by kernel_rfl) trivial (fun HS => ?_)
   refine tkh 0 (.pointer (some ⟨q, 0, none⟩)) trivial ?_; try simp only [sx]
   refine tkh 1 (.pointer (some ⟨z, 1, none⟩)) trivial ?_; try simp only [sx]
   refine tkh 3 (.slice (some ⟨b, o, none⟩) 2 capl) trivial ?_; try simp only [sx]
   refine tkh 4 (.pointer (some ⟨b, o, none⟩)) trivial ?_; try simp only [sx]
   refine tkh 5 (.pointer (some ⟨b, o, none⟩)) trivial ?_; try simp only [sx]
   refine tkh 8 (.int .u32 (y0 % 256)) trivial ?_; try simp only [sx]
   refine loads2H 2 6 (.int .u32 (k : Int)) (.int .u32 i) rfl rfl rfl rfl (by decide) (by decide) (by kernel_rfl) (by kernel_rfl) (by kernel_rfl) rfl rfl (by go_simp) (by go_simp) (by go_simp) (by go_simp) ?_; try simp only [sx]
   refine callHP 7 123 #[.pointer (some ⟨q, 0, none⟩), .int .u32 (k : Int), .int .u32 i] rfl (by kernel_rfl) (by rfl) (by go_simp) (hel.out) ?_
   rintro x w1 ⟨hw1, rfl⟩
   subst hw1
   refine Or.inl ⟨_, rfl, trivial, ?_⟩
   try simp only [Act.put, sx]
   refine tkh 9 (.pointer (some ⟨g, i.toNat, none⟩)) trivial ?_; try simp only [sx]
   refine storeH 10 rfl rfl (by kernel_rfl) (by rfl) (w' := W3.drew.setCell ⟨g, i.toNat, none⟩ (.int .u32 (y0 % 256))) (by go_simp) trivial ?_
   refine wpAnyH_done (by kernel_rfl) ?_ _
   show _
   go_wp2_with fail
   go_end0
   show MP _ _ _ _ _ _ R _ _
   rw [← hR.out, if_neg (by have := hlt.out; omega)]
   exact ⟨rfl, V, m1.out, (Chg.of_ext _ hX2.out).trans m2.out (fun x hx => Or.inl hx), ToV.refl _ _ _⟩
 ·replace hel := hidden hel
  have hMx := hidden h
  clear h hc0 hc2 c2 hcw BW XW
  go_enter Tryz.func96, Tryz.ntmps96
  go_wp2_with fail
  go_quiet (fail)
  all_goals go_wp2_with fail
  obtain ⟨z, hz⟩ := ex w.heap.size
  obtain ⟨W, hW⟩ := ex (w.alloc (.cells #[.int .i64 4, .int .u32 (k : Int)] 63))
  simp only [hz, hW] at b1 zlt d0 d2 dc dw hX ⊢
  clear d2 dc dw
  replace hz := hidden hz
  replace hW := hidden hW
  have hX3 := hX.out.drewN nq
  have b1' : (W.drewN nq).cell? ⟨z, 1, none⟩ = some (.int .u32 (k : Int)) := b1
  have d0' : (W.drewN nq).cell? ⟨b, o, none⟩ = some (.int .u32 i) := d0
  obtain ⟨W3, hW3⟩ := ex (W.drewN nq)
  rw [hW3] at hX3 b1' d0' ⊢
  have hX2 := hidden hX3.drew
  replace hW3 := hidden hW3
  clear b1 d0 hX3
  replace hel := hel.out W3.drew hX2.out
  by_cases hlt : ((s.ar.getD k []).length : Int) ≤ i
  ·simp only [if_pos hlt] at hel ⊢
   replace hel := hidden hel
   replace hlt := hidden hlt
   refine wp_region_held_drew (S := fun _ => True) (by kernel_rfl) trivial (fun HS => ?_)
   refine tkh 0 (.pointer (some ⟨q, 0, none⟩)) trivial ?_; try simp only [sx]
   refine tkh 1 (.pointer (some ⟨z, 1, none⟩)) trivial ?_; try simp only [sx]
   refine tkh 3 (.slice (some ⟨b, o, none⟩) 2 capl) trivial ?_; try simp only [sx]
   refine tkh 4 (.pointer (some ⟨b, o, none⟩)) trivial ?_; try simp only [sx]
   refine tkh 5 (.pointer (some ⟨b, o, none⟩)) trivial ?_; try simp only [sx]
   refine tkh 8 (.int .u32 y0) trivial ?_; try simp only [sx]
   refine loads2H 2 6 (.int .u32 (k : Int)) (.int .u32 i) rfl rfl rfl rfl (by decide) (by decide) (by kernel_rfl) (by kernel_rfl) (by kernel_rfl) rfl rfl (by go_simp) (by go_simp) (by go_simp) (by go_simp) ?_; try simp only [sx]
   refine callHP 7 123 #[.pointer (some ⟨q, 0, none⟩), .int .u32 (k : Int), .int .u32 i] rfl (by kernel_rfl) (by rfl) (by go_simp) (hel.out) ?_
   rintro x w1 ⟨hw1, rfl⟩
   subst hw1
   refine Or.inr ⟨_, rfl, rfl, ?_⟩
   show MP _ _ _ _ _ _ R _ _
   rw [← hR.out, if_pos hlt.out]
   exact ⟨rfl, Chg.of_ext _ hX2.out⟩
  ·simp only [if_neg hlt] at hel ⊢
   obtain ⟨ga, ca, v, a, -, -, -, hv1, hv2, hv3, hv4⟩ := hMx.out.m.arr_at hk
   have i0 := hi.1
   obtain ⟨g, cap, rfl, -, -, -, hcg⟩ := arow_cell (k := i.toNat) hv4 (by rw [hv3] at hlt; omega)
   have dg := hX2.out.cell hcg
   have fg := hX2.out.frozen hcg (arow_frozen (by have := hv4; unfold Row.own arow at this; simp only at this; exact this))
   have hel2 : Calls Tryz.prog 123 #[.pointer (some ⟨q, 0, none⟩), .int .u32 (k : Int), .int .u32 i] W3.drew fun x w' => w' = W3.drew ∧ x = .returned (.pointer (some ⟨g, i.toNat, none⟩)) := by
    refine hel.mono ?_
    rintro x w' ⟨hw', g', cap', hx, he, -⟩
    rw [hv1] at he
    simp only [Option.some.injEq, Value.slice.injEq, Addr.mk.injEq, and_true, true_and] at he
    obtain ⟨rfl, -⟩ := he
    exact ⟨hw', hx⟩
   obtain ⟨m1, m2⟩ := (hMx.out.m.ext hX2.out).cellr (i := 6 + k) (g := g) (cap := cap) (n := a.length) (sz := 1) (t := 42) (cs := a.map (Value.int .u32)) (s' := { s with ar := s.ar.set k (a.set i.toNat y0) }) (rows_ar hv1 hv2) i.toNat (.int .u32 y0) (by rw [rows_ar_set hv1]; unfold arow; simp only [List.map_set, List.length_set]) (by simp) rfl
   rw [← hv3] at m1
   replace m1 := hidden m1
   replace m2 := hidden m2
   clear hel
   have hel := hidden hel2
   replace hlt := hidden hlt
   clear hel2 hv1 hv2 hv3 hv4 hcg hi hMx
   refine wp_region_held_drew (S := fun _ => True) (by kernel_rfl) trivial (fun HS => ?_)
   refine tkh 0 (.pointer (some ⟨q, 0, none⟩)) trivial ?_; try simp only [sx]
   refine tkh 1 (.pointer (some ⟨z, 1, none⟩)) trivial ?_; try simp only [sx]
   refine tkh 3 (.slice (some ⟨b, o, none⟩) 2 capl) trivial ?_; try simp only [sx]
   refine tkh 4 (.pointer (some ⟨b, o, none⟩)) trivial ?_; try simp only [sx]
   refine tkh 5 (.pointer (some ⟨b, o, none⟩)) trivial ?_; try simp only [sx]
   refine tkh 8 (.int .u32 y0) trivial ?_; try simp only [sx]
   refine loads2H 2 6 (.int .u32 (k : Int)) (.int .u32 i) rfl rfl rfl rfl (by decide) (by decide) (by kernel_rfl) (by kernel_rfl) (by kernel_rfl) rfl rfl (by go_simp) (by go_simp) (by go_simp) (by go_simp) ?_; try simp only [sx]
   refine callHP 7 123 #[.pointer (some ⟨q, 0, none⟩), .int .u32 (k : Int), .int .u32 i] rfl (by kernel_rfl) (by rfl) (by go_simp) (hel.out) ?_
   rintro x w1 ⟨hw1, rfl⟩
   subst hw1
   refine Or.inl ⟨_, rfl, trivial, ?_⟩
   try simp only [Act.put, sx]
   refine tkh 9 (.pointer (some ⟨g, i.toNat, none⟩)) trivial ?_; try simp only [sx]
   refine storeH 10 rfl rfl (by kernel_rfl) (by rfl) (w' := W3.drew.setCell ⟨g, i.toNat, none⟩ (.int .u32 y0)) (by go_simp) trivial ?_
   refine wpAnyH_done (by kernel_rfl) ?_ _
   show _
   go_wp2_with fail
   go_end0
   show MP _ _ _ _ _ _ R _ _
   rw [← hR.out, if_neg (by have := hlt.out; omega)]
   exact ⟨rfl, V, m1.out, (Chg.of_ext _ hX2.out).trans m2.out (fun x hx => Or.inl hx), ToV.refl _ _ _⟩
theorem u8_info : (Tryz.prog.info? 5).map (fun i => (i.zero, i.size, i.bytes)) = some (some (.int .u8 0), 1, 1) := by kernel_rfl
theorem m_emit : Meth 107 34 := by
 intro w B q V X E s arg l v h
 rw [exe34]
 have hll : l.length = 1 := h.ll
 obtain ⟨b, o, capl, rfl, hbq, hbl, hc0, -⟩ := h.v0 0 (by omega)
 rw [hll]
 obtain ⟨i0, hi, hz0, hz1, hz2⟩ := info_parts u8_info
 have hia := hidden hi
 have hyu : U32 (vl l 0).1 := u32_vl h.lu 0
 obtain ⟨y, hy⟩ := ex ((vl l 0).1)
 rw [hy] at hc0 hyu ⊢
 have hrow := h.m.row 5 _ rfl
 unfold Row.own at hrow
 simp only at hrow
 have c13 := h.m.cell 13 _ rfl
 have f13 := h.m.blk.frozen 13
 have hqV : q ∈ SV q V := by simp [SV]
 have hbq' : b ≠ q := fun e => hbq (by rw [e]; exact hqV)
 have hoV : ∀ x, V.out.ownBlock = some x → x ∈ SV q V := fun x hx => by simp [SV, hx]
 have hset0 := fun (W w1 : World) (v' : Value) (cX : Ext w W) (g1 : w1.ownsRow B 5 1 v' (s.out.length + 1) (s.out.map (Value.int .u8) ++ [.int .u8 (y % 256)])) (g2 : W.grownBy w1 V.out.ownBlock) (g3 : v'.ownBlock = V.out.ownBlock ∨ v'.ownBlock = some W.heap.size) => by
  have hMW := h.m.ext cX
  have c : Chg V.out.ownBlock.toList W w1 := (Chg.refl _ W).grown g2 (fun k hk => Or.inl (by simp [hk]))
  have hq : q ∉ V.out.ownBlock.toList := fun hm => (List.nodup_cons.1 h.m.rows.nodup).1 (mem_blks.2 ⟨_, List.mem_of_getElem? (i := 5) rfl, by simpa using hm⟩)
  obtain ⟨m1, m2, m3⟩ := hMW.setRow (i := 5) (j := 13) (r' := ⟨5, 1, v', (s.out ++ [y % 256]).length, (s.out ++ [y % 256]).map (Value.int .u8)⟩) (V' := { V with out := v' }) (s' := { s with out := s.out ++ [y % 256] }) rfl c (fun x hx => Or.inl (by simpa using hx))
   (by unfold Row.own; simp only [List.length_append, List.map_append]; exact g1) (fun x hx => by rcases g3 with e | e <;> rw [e] at hx; exact Or.inl hx; simp only [Option.some.injEq] at hx; exact Or.inr (by omega)) rfl hMW.al rfl
  exact (⟨m1, (Chg.of_ext _ cX).trans m2 (fun x hx => Or.inl hx), fun x hx => (m3 x hx).imp id (fun h => Nat.le_trans cX.size h), c.cell hq (cX.cell c13), c.frozen hq (cX.cell c13) (cX.frozen c13 f13)⟩ : MSt LP (w1.setCell ⟨q, 13, none⟩ v') B q { V with out := v' } X E { s with out := s.out ++ [y % 256] } ∧ Chg (SV q V) w (w1.setCell ⟨q, 13, none⟩ v') ∧ ToV w.heap.size q V { V with out := v' } ∧ w1.cell? ⟨q, 13, none⟩ = some V.out ∧ w1.frozen? ⟨q, 13, none⟩ = false)
 have hwr : IntKind.u8.wrap y = y % 256 := by rw [IntKind.wrap_u8]
 have hd1 := hidden (idem_true 5)
 have hd0 := hidden (idem_false 5)
 have hB := h.hb
 obtain ⟨av, cv, hV0, hcv, hcv2, -⟩ := own_shape hrow
 rw [hV0] at hrow c13 hset0 hoV
 obtain ⟨R, hR⟩ := ex (emitF y s)
 rw [hR]
 unfold emitF at hR
 obtain ⟨n, hn⟩ := ex s.out.length
 obtain ⟨cs, hcs⟩ := ex (s.out.map (Value.int .u8))
 have hno := h.ok.out
 rw [hn] at hrow c13 hcv hR hset0 hno hoV
 rw [hcs] at hrow hset0
 simp only [Nat.zero_mul, Nat.add_zero] at hc0
 replace hy := hidden hy
 replace hn := hidden hn
 replace hcs := hidden hcs
 replace hV0 := hidden hV0
 by_cases hlt : n < 65536
 ·rw [if_pos hlt] at hR
  have hdec : decide ((n : Int) < 65536) = true := decide_eq_true (by omega)
  replace hR := hidden hR
  have XW := (Ext.refl w).alloc (.cells #[.int .i64 34, .int .u32 arg] 63)
  have hX := hidden XW
  have d13 := XW.cell c13
  have d0 := XW.cell hc0
  have hset := hidden (fun v' w1 => hset0 ((w.alloc (.cells #[.int .i64 34, .int .u32 arg] 63)).alloc (.cells #[.int .u8 (y % 256)] 5)).drew w1 v' (XW.alloc _).drew)
  have HO := hidden (own_ext hrow (XW.alloc (.cells #[.int .u8 (y % 256)] 5)).drew)
  have hrows : ∀ x, (Value.slice av n cv).ownBlock = some x → x ∈ SV q V := hoV
  have hbv := hidden (fun e => hbq (hrows b e.symm) : some b ≠ (Value.slice av n cv).ownBlock)
  have hsz := XW.size
  clear h hrow c13 f13 hc0 hset0 hi hlt hoV hrows
  go_enter Tryz.func107, Tryz.ntmps107
  go_wp2_with fail
  refine (hd1.out _).mono ?_
  rintro x w1 ⟨rfl, hw1⟩
  rw [hw1]
  clear hw1
  go_wp2_with fail
  obtain ⟨W, hW⟩ := ex (w.alloc (.cells #[.int .i64 34, .int .u32 arg] 63))
  rw [hW] at XW hX d13 d0 hset HO hsz ⊢
  have e0 := ((Ext.refl W).alloc (.cells #[.int .u8 (y % 256)] 5)).drew.cell d0
  have e13 := ((Ext.refl W).alloc (.cells #[.int .u8 (y % 256)] 5)).drew.cell d13
  have HN := hidden (rd_newc W [.int .u8 (y % 256)] 5 1 1 rfl (by decide)).drew
  have hBW := hidden (show B ≤ (W.alloc (.cells #[.int .u8 (y % 256)] 5)).drew.heap.size from Nat.le_trans hB (XW.alloc _).drew.size)
  replace hW := hidden hW
  clear XW
  refine wp_region_held_drew (S := fun w' => w'.cell? ⟨b, o, none⟩ = some (.int .u32 y)) (by kernel_rfl) d0 (fun HS => ?_)
  refine tkh 0 (.pointer (some ⟨q, 0, none⟩)) HS ?_; try simp only [sx]
  refine tkh 1 (.pointer (some ⟨q, 0, none⟩)) HS ?_; try simp only [sx]
  refine tkh 2 (.pointer (some ⟨q, 0, none⟩)) HS ?_; try simp only [sx]
  refine tkh 3 (.pointer (some ⟨q, 13, none⟩)) HS ?_; try simp only [sx]
  refine tkh 5 (.slice (some ⟨b, o, none⟩) 1 capl) HS ?_; try simp only [sx]
  refine tkh 6 (.pointer (some ⟨b, o, none⟩)) HS ?_; try simp only [sx]
  refine tkh 7 (.pointer (some ⟨b, o, none⟩)) HS ?_; try simp only [sx]
  refine tkh 8 (.int .u32 y) HS ?_; try simp only [sx]
  refine tkh 9 (.int .u8 (y % 256)) HS ?_; try simp only [sx]
  refine pairH 4 10 (.slice av n cv) (.slice (some ⟨W.heap.size, 0, none⟩) 1 1) rfl rfl rfl rfl (by decide) (by decide) (by kernel_rfl) (by kernel_rfl) (by kernel_rfl) rfl rfl (w' := (W.alloc (.cells #[.int .u8 (y % 256)] 5)).drew) (by go_simp) (by go_simp) (by go_simp) (by go_simp) HS e0 ?_; try simp only [sx]
  refine appendH 11 rfl rfl rfl (by kernel_rfl) _ _ 46 (by rfl) B 5 i0 (.int .u8 0) 1 1 Tryz.underlying46 hia.out hz0 hz1 hz2 rfl (by decide) (.slice av n cv) n cs (by rfl) HO.out (some ⟨W.heap.size, 0, none⟩) 1 1 [.int .u8 (y % 256)] (by rfl) HN.out (by simp [Value.oneCell']) (by unfold maxLen; omega) (by omega) (by have := hBW.out; omega) (by omega) ?_
  intro v' w4 hown4 hgrow4 hat4
  obtain ⟨m1, m2, m3, m4, m5⟩ := hset.out v' w4 hown4 hgrow4 hat4
  obtain ⟨a4, c4, rfl, k41, k42, -⟩ := own_shape hown4
  have f0 : w4.cell? ⟨b, o, none⟩ = some (.int .u32 y) := World.grownBy.cell hgrow4 e0 hbv.out
  replace m1 := hidden m1
  replace m2 := hidden m2
  replace m3 := hidden m3
  clear hown4 hgrow4 hat4
  refine ⟨f0, ?_⟩; try simp only [sx]
  refine tkh 12 (.pointer (some ⟨q, 0, none⟩)) f0 ?_; try simp only [sx]
  refine tkh 13 (.pointer (some ⟨q, 13, none⟩)) f0 ?_; try simp only [sx]
  refine storeH 14 rfl rfl (by kernel_rfl) (by rfl) (w' := w4.setCell ⟨q, 13, none⟩ (.slice a4 (n + 1) c4)) (by go_simp) (set_other (fun e => hbq' (congrArg Addr.block e).symm) f0) ?_
  refine wpAnyH_done (by kernel_rfl) ?_ _
  show _
  go_wp2_with fail
  go_end0
  show MP _ _ _ _ _ _ R _ _
  rw [← hR.out]
  exact ⟨rfl, _, m1.out, m2.out, m3.out⟩
 ·rw [if_neg hlt] at hR
  have hdec : decide ((n : Int) < 65536) = false := decide_eq_false (by omega)
  replace hR := hidden hR
  have XW := (Ext.refl w).alloc (.cells #[.int .i64 34, .int .u32 arg] 63)
  have hX := hidden XW
  have d13 := XW.cell c13
  clear h hrow c13 f13 hc0 hset0 hi hlt hoV
  go_enter Tryz.func107, Tryz.ntmps107
  go_wp2_with fail
  refine (hd0.out _).mono ?_
  rintro x w1 ⟨rfl, hw1⟩
  rw [hw1]
  unfold failI
  go_wp2_with fail
  refine ⟨rfl, ?_⟩
  show MP _ _ _ _ _ _ R _ _
  rw [← hR.out]
  exact ⟨rfl, Chg.of_ext _ hX.out⟩
end Go.Proofs.YtgjjklajipekdaaGreat
