
import Derived.Test.YtgjjklajipekdaaGreatZe
namespace Go.Proofs.YtgjjklajipekdaaGreat
set_option maxHeartbeats 16000000
set_option maxRecDepth 100000
open Go.RowKit
set_option linter.unusedVariables false
set_option linter.unusedSimpArgs false
attribute [local go_sem ↓] Go.wp_at_zero Go.wp_at_succ
theorem rpl_3 (k : Nat) (w : World) (B q : Nat) (V : Vs) (X : EV) (E : Env) (s : MS) (h : MSt LR w B q V X E s) (hB : B ≤ w.heap.size) (hs : OkS E s) (hE : OkE E) (i : Int) (t0 : Bool) (vl : Value) (hl : Rd w 2 vl 1 ([(i, t0)].flatMap vcR)) (hi : U32 i) (hk : k < s.ar.length) :
  Calls Tryz.prog 58 #[.pointer (some ⟨q, 0, none⟩), .agg #[.int .i64 3, .int .u32 (k : Int)], vl] w (PlP w B q V X E (if ((s.ar.getD k []).length : Int) ≤ i then .error 16 else .ok ([((s.ar.getD k []).getD i.toNat 0, false)], s))) := by
 obtain ⟨b, hb⟩ := ex w.heap.size
 obtain ⟨W1, hW1, X1, N1⟩ := alx w #[.int .i64 3, .int .u32 (k : Int)] [.int .i64 3, .int .u32 (k : Int)] 63 b hb
 obtain ⟨n0, n1⟩ := N1.c2
 have hI := hidden h
 have h1 := h.ext X1
 obtain ⟨lv, lc, rfl, -⟩ := Rd.shape hl
 obtain ⟨lb, lo, rfl, -, -⟩ := Rd.cells hl (by decide)
 have g1 := X1.cell (rd_at hl 1 _ rfl)
 have hA8 := hE.A8
 have hA2 := hs.ar
 obtain ⟨ga, ca, va, a, hva, hca, ck, hv1, hv2, hv3, hv4⟩ := h1.arr_at hk
 have c7 := h1.cell 7 _ rfl
 rw [hva] at c7
 have ho := hv4
 unfold Row.own arow at ho
 simp only at ho
 obtain ⟨xa, cap, rfl, hcap, hcap2, hg⟩ := own_shape ho
 obtain ⟨n, hn⟩ := ex s.ar.length
 obtain ⟨m, hm⟩ := ex a.length
 have i0 := hi.1
 have hwi : IntKind.i64.wrap i = i := IntWalk.i64_in _ (by have := hi.2; omega)
 rw [hn] at c7 hk hca hA2
 rw [hv3, hm]
 rw [hm] at ck hcap
 have hk2 : (k : Int) < (n : Int) := by omega
 clear hA2 hA8
 obtain ⟨R, hR⟩ : ∃ R : Except Int (List Vl × MS), (if (m : Int) ≤ i then .error 16 else .ok ([(a.getD i.toNat 0, false)], s)) = R := ⟨_, rfl⟩
 rw [hR]
 by_cases hlt : (m : Int) ≤ i
 ·have hdec : decide ((m : Int) ≤ i) = true := decide_eq_true hlt
  rw [if_pos hlt] at hR
  replace hR := hidden hR
  replace hlt := hidden hlt
  clear hg hv1 hv2 hv3 hv4 ho hva hE hs
  have X1I := hidden X1
  replace hW1 := hidden hW1
  clear h h1 X1 N1
  go_enter Tryz.func58, Tryz.ntmps58
  go_upto_region 1 with fail
  rw [hW1.out]
  clear hW1 hb
  go_upto_region 10 with fail
  refine wp_region_D (S := fun w' => w'.cell? ⟨q, 7, none⟩ = some (.slice (some ⟨ga, 0, none⟩) n ca) ∧ w'.cell? ⟨b, 1, none⟩ = some (.int .u32 (k : Int)) ∧ w'.cell? ⟨ga, k, none⟩ = some (.slice xa m cap) ∧ w'.cell? ⟨lb, lo + 1, none⟩ = some (.int .u32 i)) (D := []) (by kernel_rfl) ⟨c7, n1, ck, g1⟩ (fun HS => ?_)
  refine tk 0 [] (.slice (some ⟨lb, lo, none⟩) 1 lc) HS ?_; try simp only [sx]
  refine tk 1 [] (.pointer (some ⟨lb, lo, none⟩)) HS ?_; try simp only [sx]
  refine tk 2 [] (.pointer (some ⟨lb, lo + 1, none⟩)) HS ?_; try simp only [sx]
  refine tk 3 [] (.int .u32 i) HS ?_; try simp only [sx]
  refine tk 4 [] (.int .i64 i) HS ?_; try simp only [sx]
  refine tk 5 [] (.pointer (some ⟨q, 0, none⟩)) HS ?_; try simp only [sx]
  refine tk 6 [] (.pointer (some ⟨q, 0, none⟩)) HS ?_; try simp only [sx]
  refine tk 7 [] (.pointer (some ⟨q, 7, none⟩)) HS ?_; try simp only [sx]
  refine tk 8 [] (.pointer (some ⟨q, 7, none⟩)) HS ?_; try simp only [sx]
  refine tk 9 [] (.slice (some ⟨ga, 0, none⟩) n ca) HS ?_; try simp only [sx]
  refine tk 10 [] (.pointer (some ⟨b, 1, none⟩)) HS ?_; try simp only [sx]
  refine tk 11 [] (.int .u32 (k : Int)) HS ?_; try simp only [sx]
  refine tk 12 [] (.pointer (some ⟨ga, k, none⟩)) HS ?_; try simp only [sx]
  refine tk 13 [] (.slice xa m cap) HS ?_; try simp only [sx]
  refine tk 14 [] (.int .i64 (m : Int)) HS ?_; try simp only [sx]
  refine tk 15 [] (.bool true) HS ?_; try simp only [sx]
  refine wpAnyD_done (by kernel_rfl) ?_ _
  show _
  go_wp2_with fail
  go_ret2
  rw [← hR.out]
  exact ⟨_, rfl, Chg.of_ext _ X1I.out.drew⟩
 ·obtain ⟨g, rfl, -, -⟩ := hg (by omega)
  obtain ⟨j, rfl⟩ := Int.eq_ofNat_of_zero_le i0
  have hdec : decide ((m : Int) ≤ (j : Int)) = false := decide_eq_false hlt
  have hj2 : (j : Int) < (m : Int) := by omega
  have hjm : j < a.length := by omega
  have hjm2 : j < m := by omega
  rw [if_neg hlt, Int.toNat_natCast] at hR
  replace hlt := hidden hlt
  have hcj := own_cell ho j (.int .u32 (a.getD j 0)) (by rw [List.getElem?_map, List.getElem?_eq_getElem hjm, List.getD_eq_getElem?_getD, List.getElem?_eq_getElem hjm]; rfl)
  obtain ⟨y, hy⟩ := ex (a.getD j 0)
  rw [hy] at hcj hR
  replace hR := hidden hR
  replace hy := hidden hy
  clear hg hv1 hv2 hv3 hv4 ho hva hE hs hjm
  have X1I := hidden X1
  replace hW1 := hidden hW1
  clear h h1 X1 N1
  go_enter Tryz.func58, Tryz.ntmps58
  go_upto_region 1 with fail
  rw [hW1.out]
  clear hW1 hb
  go_upto_region 10 with fail
  refine wp_region_D (S := fun w' => w'.cell? ⟨q, 7, none⟩ = some (.slice (some ⟨ga, 0, none⟩) n ca) ∧ w'.cell? ⟨b, 1, none⟩ = some (.int .u32 (k : Int)) ∧ w'.cell? ⟨ga, k, none⟩ = some (.slice (some ⟨g, 0, none⟩) m cap) ∧ w'.cell? ⟨lb, lo + 1, none⟩ = some (.int .u32 (j : Int))) (D := []) (by kernel_rfl) ⟨c7, n1, ck, g1⟩ (fun HS => ?_)
  refine tk 0 [] (.slice (some ⟨lb, lo, none⟩) 1 lc) HS ?_; try simp only [sx]
  refine tk 1 [] (.pointer (some ⟨lb, lo, none⟩)) HS ?_; try simp only [sx]
  refine tk 2 [] (.pointer (some ⟨lb, lo + 1, none⟩)) HS ?_; try simp only [sx]
  refine tk 3 [] (.int .u32 (j : Int)) HS ?_; try simp only [sx]
  refine tk 4 [] (.int .i64 (j : Int)) HS ?_; try simp only [sx]
  refine tk 5 [] (.pointer (some ⟨q, 0, none⟩)) HS ?_; try simp only [sx]
  refine tk 6 [] (.pointer (some ⟨q, 0, none⟩)) HS ?_; try simp only [sx]
  refine tk 7 [] (.pointer (some ⟨q, 7, none⟩)) HS ?_; try simp only [sx]
  refine tk 8 [] (.pointer (some ⟨q, 7, none⟩)) HS ?_; try simp only [sx]
  refine tk 9 [] (.slice (some ⟨ga, 0, none⟩) n ca) HS ?_; try simp only [sx]
  refine tk 10 [] (.pointer (some ⟨b, 1, none⟩)) HS ?_; try simp only [sx]
  refine tk 11 [] (.int .u32 (k : Int)) HS ?_; try simp only [sx]
  refine tk 12 [] (.pointer (some ⟨ga, k, none⟩)) HS ?_; try simp only [sx]
  refine tk 13 [] (.slice (some ⟨g, 0, none⟩) m cap) HS ?_; try simp only [sx]
  refine tk 14 [] (.int .i64 (m : Int)) HS ?_; try simp only [sx]
  refine tk 15 [] (.bool false) HS ?_; try simp only [sx]
  refine wpAnyD_done (by kernel_rfl) ?_ _
  show _
  go_upto_region 12 with fail
  refine wp_region_D (S := fun w' => w'.cell? ⟨q, 7, none⟩ = some (.slice (some ⟨ga, 0, none⟩) n ca) ∧ w'.cell? ⟨b, 1, none⟩ = some (.int .u32 (k : Int)) ∧ w'.cell? ⟨ga, k, none⟩ = some (.slice (some ⟨g, 0, none⟩) m cap) ∧ w'.cell? ⟨lb, lo + 1, none⟩ = some (.int .u32 (j : Int)) ∧ w'.cell? ⟨g, j, none⟩ = some (.int .u32 y)) (D := []) (by kernel_rfl) ⟨c7, n1, ck, g1, hcj⟩ (fun HS => ?_)
  refine tk 0 [] (.pointer (some ⟨q, 0, none⟩)) HS ?_; try simp only [sx]
  refine tk 1 [] (.pointer (some ⟨q, 0, none⟩)) HS ?_; try simp only [sx]
  refine tk 2 [] (.pointer (some ⟨q, 7, none⟩)) HS ?_; try simp only [sx]
  refine tk 3 [] (.pointer (some ⟨q, 7, none⟩)) HS ?_; try simp only [sx]
  refine tk 4 [] (.slice (some ⟨ga, 0, none⟩) n ca) HS ?_; try simp only [sx]
  refine tk 5 [] (.pointer (some ⟨b, 1, none⟩)) HS ?_; try simp only [sx]
  refine tk 6 [] (.int .u32 (k : Int)) HS ?_; try simp only [sx]
  refine tk 7 [] (.pointer (some ⟨ga, k, none⟩)) HS ?_; try simp only [sx]
  refine tk 8 [] (.slice (some ⟨g, 0, none⟩) m cap) HS ?_; try simp only [sx]
  refine tk 9 [] (.slice (some ⟨lb, lo, none⟩) 1 lc) HS ?_; try simp only [sx]
  refine tk 10 [] (.pointer (some ⟨lb, lo, none⟩)) HS ?_; try simp only [sx]
  refine tk 11 [] (.pointer (some ⟨lb, lo + 1, none⟩)) HS ?_; try simp only [sx]
  refine tk 12 [] (.int .u32 (j : Int)) HS ?_; try simp only [sx]
  refine tk 13 [] (.pointer (some ⟨g, j, none⟩)) HS ?_; try simp only [sx]
  refine tk 14 [] (.int .u32 y) HS ?_; try simp only [sx]
  refine callVD 15 81 #[.int .u32 y] rfl rfl (by kernel_rfl) (by rfl) (by go_simp) (rnumber_any y _) ?_
  rintro x w2 ⟨v, rfl, hO, hX⟩
  have HS2 := And.intro (hX.cell (HS.1)) (And.intro (hX.cell (HS.2.1)) (And.intro (hX.cell (HS.2.2.1)) (And.intro (hX.cell (HS.2.2.2.1)) (hX.cell (HS.2.2.2.2)))))
  refine Or.inl ⟨_, rfl, fun _ => HS2, ?_⟩
  try simp only [Act.put, sx]
  refine tk 16 [] (v) HS2 ?_; try simp only [sx]
  refine tk 17 [] (.int .i64 0) HS2 ?_; try simp only [sx]
  refine wpAnyD_done (by kernel_rfl) ?_ _
  show _
  go_wp2_with fail
  go_ret2
  rw [← hR.out]
  exact pl_same hI.out (X1I.out.drew.drew.trans hX) (Rd.of_own hO)
theorem rpl_4 (k : Nat) (w : World) (B q : Nat) (V : Vs) (X : EV) (E : Env) (s : MS) (h : MSt LR w B q V X E s) (hB : B ≤ w.heap.size) (hs : OkS E s) (hE : OkE E) (i y : Int) (t0 t1 : Bool) (vl : Value) (hl : Rd w 2 vl 2 ([(i, t0), (y, t1)].flatMap vcR)) (hi : U32 i) (hy0 : U32 y) (hk : k < s.ar.length) :
  Calls Tryz.prog 58 #[.pointer (some ⟨q, 0, none⟩), .agg #[.int .i64 4, .int .u32 (k : Int)], vl] w (PlP w B q V X E (if ((s.ar.getD k []).length : Int) ≤ i then .error 16 else .ok ([], { s with ar := s.ar.set k ((s.ar.getD k []).set i.toNat (if (E.A.getD k (false, 0)).1 = true then y else y % 256)) }))) := by
 obtain ⟨b, hb⟩ := ex w.heap.size
 obtain ⟨W1, hW1, X1, N1⟩ := alx w #[.int .i64 4, .int .u32 (k : Int)] [.int .i64 4, .int .u32 (k : Int)] 63 b hb
 obtain ⟨n0, n1⟩ := N1.c2
 have hI := hidden h
 have h1 := h.ext X1
 obtain ⟨lv, lc, rfl, -⟩ := Rd.shape hl
 obtain ⟨lb, lo, rfl, -, -⟩ := Rd.cells hl (by decide)
 have g1 := X1.cell (rd_at hl 1 _ rfl)
 have g3 := X1.cell (rd_at hl 3 _ rfl)
 obtain ⟨bA, oA, capA, hvA, hcA, -, -, hcw, -⟩ := h1.env.arr_at (k := k) (by have := hs.ar; omega)
 have c0 := h1.cell 0 _ rfl
 rw [hvA] at c0
 obtain ⟨wd, hwd⟩ := ex ((E.A.getD k (false, 0)).1)
 rw [hwd] at hcw ⊢
 have hA8 := hE.A8
 have hA2 := hs.ar
 obtain ⟨ga, ca, va, a, hva, hca, ck, hv1, hv2, hv3, hv4⟩ := h1.arr_at hk
 have c7 := h1.cell 7 _ rfl
 rw [hva] at c7
 have ho := hv4
 unfold Row.own arow at ho
 simp only at ho
 obtain ⟨xa, cap, rfl, hcap, hcap2, hg⟩ := own_shape ho
 obtain ⟨n, hn⟩ := ex s.ar.length
 obtain ⟨m, hm⟩ := ex a.length
 have i0 := hi.1
 have hwi : IntKind.i64.wrap i = i := IntWalk.i64_in _ (by have := hi.2; omega)
 obtain ⟨nA, hnA⟩ := ex E.A.length
 rw [hn] at c7 hk hca hA2
 rw [hnA] at c0 hcA hA8 hA2
 rw [hv3, hm]
 rw [hm] at ck hcap
 have hk2 : (k : Int) < (n : Int) := by omega
 have hkA : (k : Int) < (nA : Int) := by omega
 have y0 := hy0.1
 clear hA2
 obtain ⟨R, hR⟩ : ∃ R : Except Int (List Vl × MS), (if (m : Int) ≤ i then .error 16 else .ok ([], { s with ar := s.ar.set k (a.set i.toNat (if wd = true then y else y % 256)) })) = R := ⟨_, rfl⟩
 rw [hR]
 by_cases hlt : (m : Int) ≤ i
 ·have hdec : decide ((m : Int) ≤ i) = true := decide_eq_true hlt
  rw [if_pos hlt] at hR
  replace hR := hidden hR
  replace hlt := hidden hlt
  clear hg hv1 hv2 hv3 hv4 ho hva hE hs
  have X1I := hidden X1
  replace hW1 := hidden hW1
  clear h h1 X1 N1
  go_enter Tryz.func58, Tryz.ntmps58
  go_upto_region 1 with fail
  rw [hW1.out]
  clear hW1 hb
  go_upto_region 14 with fail
  refine wp_region_D (S := fun w' => w'.cell? ⟨q, 7, none⟩ = some (.slice (some ⟨ga, 0, none⟩) n ca) ∧ w'.cell? ⟨b, 1, none⟩ = some (.int .u32 (k : Int)) ∧ w'.cell? ⟨ga, k, none⟩ = some (.slice xa m cap) ∧ w'.cell? ⟨lb, lo + 1, none⟩ = some (.int .u32 i)) (D := []) (by kernel_rfl) ⟨c7, n1, ck, g1⟩ (fun HS => ?_)
  refine tk 0 [] (.slice (some ⟨lb, lo, none⟩) 2 lc) HS ?_; try simp only [sx]
  refine tk 1 [] (.pointer (some ⟨lb, lo, none⟩)) HS ?_; try simp only [sx]
  refine tk 2 [] (.pointer (some ⟨lb, lo + 1, none⟩)) HS ?_; try simp only [sx]
  refine tk 3 [] (.int .u32 i) HS ?_; try simp only [sx]
  refine tk 4 [] (.int .i64 i) HS ?_; try simp only [sx]
  refine tk 5 [] (.pointer (some ⟨q, 0, none⟩)) HS ?_; try simp only [sx]
  refine tk 6 [] (.pointer (some ⟨q, 0, none⟩)) HS ?_; try simp only [sx]
  refine tk 7 [] (.pointer (some ⟨q, 7, none⟩)) HS ?_; try simp only [sx]
  refine tk 8 [] (.pointer (some ⟨q, 7, none⟩)) HS ?_; try simp only [sx]
  refine tk 9 [] (.slice (some ⟨ga, 0, none⟩) n ca) HS ?_; try simp only [sx]
  refine tk 10 [] (.pointer (some ⟨b, 1, none⟩)) HS ?_; try simp only [sx]
  refine tk 11 [] (.int .u32 (k : Int)) HS ?_; try simp only [sx]
  refine tk 12 [] (.pointer (some ⟨ga, k, none⟩)) HS ?_; try simp only [sx]
  refine tk 13 [] (.slice xa m cap) HS ?_; try simp only [sx]
  refine tk 14 [] (.int .i64 (m : Int)) HS ?_; try simp only [sx]
  refine tk 15 [] (.bool true) HS ?_; try simp only [sx]
  refine wpAnyD_done (by kernel_rfl) ?_ _
  show _
  go_wp2_with fail
  go_ret2
  rw [← hR.out]
  exact ⟨_, rfl, Chg.of_ext _ X1I.out.drew⟩
 ·obtain ⟨g, rfl, -, -⟩ := hg (by omega)
  obtain ⟨j, rfl⟩ := Int.eq_ofNat_of_zero_le i0
  have hdec : decide ((m : Int) ≤ (j : Int)) = false := decide_eq_false hlt
  have hj2 : (j : Int) < (m : Int) := by omega
  have hjm : j < a.length := by omega
  have hjm2 : j < m := by omega
  rw [if_neg hlt, Int.toNat_natCast] at hR
  replace hlt := hidden hlt
  have hcj := own_cell ho j (.int .u32 (a.getD j 0)) (by rw [List.getElem?_map, List.getElem?_eq_getElem hjm, List.getD_eq_getElem?_getD, List.getElem?_eq_getElem hjm]; rfl)
  have fj : W1.frozen? ⟨g, j, none⟩ = false := arow_frozen (k := j) ho
  cases wd
  ·first | rw [if_pos rfl] at hR | rw [if_neg (by decide)] at hR
   replace hR := hidden hR
   obtain ⟨m1, m2⟩ := (h1.ext (Ext.refl W1).drew.drew.drew).cellr (i := 6 + k) (g := g) (cap := cap) (n := a.length) (sz := 1) (t := 42) (cs := a.map (Value.int .u32)) (s' := { s with ar := s.ar.set k (a.set j (y % 256)) }) (by rw [rows_ar hv1 hv2]; unfold arow; rw [hm]) j (.int .u32 (y % 256)) (by rw [rows_ar_set hv1]; unfold arow; simp only [List.map_set, List.length_set, hm]) (by simp) rfl
   replace m1 := hidden m1
   replace m2 := hidden m2
   clear hg hv1 hv2 hv3 hv4 ho hva hE hs hjm hvA hm hn hnA
   have X1I := hidden X1
   replace hW1 := hidden hW1
   clear h h1 X1 N1
   go_enter Tryz.func58, Tryz.ntmps58
   go_upto_region 1 with fail
   rw [hW1.out]
   clear hW1 hb
   go_upto_region 14 with fail
   refine wp_region_D (S := fun w' => w'.cell? ⟨q, 7, none⟩ = some (.slice (some ⟨ga, 0, none⟩) n ca) ∧ w'.cell? ⟨b, 1, none⟩ = some (.int .u32 (k : Int)) ∧ w'.cell? ⟨ga, k, none⟩ = some (.slice (some ⟨g, 0, none⟩) m cap) ∧ w'.cell? ⟨lb, lo + 1, none⟩ = some (.int .u32 (j : Int))) (D := []) (by kernel_rfl) ⟨c7, n1, ck, g1⟩ (fun HS => ?_)
   refine tk 0 [] (.slice (some ⟨lb, lo, none⟩) 2 lc) HS ?_; try simp only [sx]
   refine tk 1 [] (.pointer (some ⟨lb, lo, none⟩)) HS ?_; try simp only [sx]
   refine tk 2 [] (.pointer (some ⟨lb, lo + 1, none⟩)) HS ?_; try simp only [sx]
   refine tk 3 [] (.int .u32 (j : Int)) HS ?_; try simp only [sx]
   refine tk 4 [] (.int .i64 (j : Int)) HS ?_; try simp only [sx]
   refine tk 5 [] (.pointer (some ⟨q, 0, none⟩)) HS ?_; try simp only [sx]
   refine tk 6 [] (.pointer (some ⟨q, 0, none⟩)) HS ?_; try simp only [sx]
   refine tk 7 [] (.pointer (some ⟨q, 7, none⟩)) HS ?_; try simp only [sx]
   refine tk 8 [] (.pointer (some ⟨q, 7, none⟩)) HS ?_; try simp only [sx]
   refine tk 9 [] (.slice (some ⟨ga, 0, none⟩) n ca) HS ?_; try simp only [sx]
   refine tk 10 [] (.pointer (some ⟨b, 1, none⟩)) HS ?_; try simp only [sx]
   refine tk 11 [] (.int .u32 (k : Int)) HS ?_; try simp only [sx]
   refine tk 12 [] (.pointer (some ⟨ga, k, none⟩)) HS ?_; try simp only [sx]
   refine tk 13 [] (.slice (some ⟨g, 0, none⟩) m cap) HS ?_; try simp only [sx]
   refine tk 14 [] (.int .i64 (m : Int)) HS ?_; try simp only [sx]
   refine tk 15 [] (.bool false) HS ?_; try simp only [sx]
   refine wpAnyD_done (by kernel_rfl) ?_ _
   show _
   go_upto_region 17 with fail
   refine wp_region_D (S := fun w' => w'.cell? ⟨q, 0, none⟩ = some (.slice (some ⟨bA, oA, none⟩) nA capA) ∧ w'.cell? ⟨b, 1, none⟩ = some (.int .u32 (k : Int)) ∧ w'.cell? ⟨bA, oA + k * 2, none⟩ = some (.bool false)) (D := []) (by kernel_rfl) ⟨c0, n1, hcw⟩ (fun HS => ?_)
   refine tk 0 [] (.pointer (some ⟨q, 0, none⟩)) HS ?_; try simp only [sx]
   refine tk 1 [] (.pointer (some ⟨q, 0, none⟩)) HS ?_; try simp only [sx]
   refine tk 2 [] (.pointer (some ⟨q, 0, none⟩)) HS ?_; try simp only [sx]
   refine tk 3 [] (.pointer (some ⟨q, 0, none⟩)) HS ?_; try simp only [sx]
   refine tk 4 [] (.slice (some ⟨bA, oA, none⟩) nA capA) HS ?_; try simp only [sx]
   refine tk 5 [] (.pointer (some ⟨b, 1, none⟩)) HS ?_; try simp only [sx]
   refine tk 6 [] (.int .u32 (k : Int)) HS ?_; try simp only [sx]
   refine tk 7 [] (.pointer (some ⟨bA, oA + k * 2, none⟩)) HS ?_; try simp only [sx]
   refine tk 8 [] (.pointer (some ⟨bA, oA + k * 2, none⟩)) HS ?_; try simp only [sx]
   refine tk 9 [] (.bool false) HS ?_; try simp only [sx]
   refine tk 10 [] (.bool true) HS ?_; try simp only [sx]
   refine wpAnyD_done (by kernel_rfl) ?_ _
   show _
   go_upto_region 19 with fail
   have c7' := ((Ext.refl W1).drew.drew).cell c7
   have n1' := ((Ext.refl W1).drew.drew).cell n1
   have ck' := ((Ext.refl W1).drew.drew).cell ck
   have g1' := ((Ext.refl W1).drew.drew).cell g1
   refine wp_region_D (S := fun w' => w'.cell? ⟨q, 7, none⟩ = some (.slice (some ⟨ga, 0, none⟩) n ca) ∧ w'.cell? ⟨b, 1, none⟩ = some (.int .u32 (k : Int)) ∧ w'.cell? ⟨ga, k, none⟩ = some (.slice (some ⟨g, 0, none⟩) m cap) ∧ w'.cell? ⟨lb, lo + 1, none⟩ = some (.int .u32 (j : Int))) (D := [15]) (by kernel_rfl) ⟨c7', n1', ck', g1'⟩ (fun HS => ?_)
   refine tk 0 [1, 2, 3, 4, 7, 8, 14, 15] (.pointer (some ⟨q, 0, none⟩)) HS ?_; try simp only [sx]
   refine tk 1 [2, 3, 4, 7, 8, 14, 15] (.pointer (some ⟨q, 0, none⟩)) HS ?_; try simp only [sx]
   refine tk 2 [3, 4, 7, 8, 14, 15] (.pointer (some ⟨q, 7, none⟩)) HS ?_; try simp only [sx]
   refine tk 3 [4, 7, 8, 14, 15] (.pointer (some ⟨q, 7, none⟩)) HS ?_; try simp only [sx]
   refine tk 4 [7, 8, 14, 15] (.slice (some ⟨ga, 0, none⟩) n ca) HS ?_; try simp only [sx]
   refine tk 5 [6, 7, 8, 14, 15] (.pointer (some ⟨b, 1, none⟩)) HS ?_; try simp only [sx]
   refine tk 6 [7, 8, 14, 15] (.int .u32 (k : Int)) HS ?_; try simp only [sx]
   refine tk 7 [8, 14, 15] (.pointer (some ⟨ga, k, none⟩)) HS ?_; try simp only [sx]
   refine tk 8 [14, 15] (.slice (some ⟨g, 0, none⟩) m cap) HS ?_; try simp only [sx]
   refine tk 9 [10, 11, 12, 14, 15] (.slice (some ⟨lb, lo, none⟩) 2 lc) HS ?_; try simp only [sx]
   refine tk 10 [11, 12, 14, 15] (.pointer (some ⟨lb, lo, none⟩)) HS ?_; try simp only [sx]
   refine tk 11 [12, 14, 15] (.pointer (some ⟨lb, lo + 1, none⟩)) HS ?_; try simp only [sx]
   refine tk 12 [14, 15] (.int .u32 (j : Int)) HS ?_; try simp only [sx]
   refine tk 13 [14, 15] (.int .u32 (y % 256)) HS ?_; try simp only [sx]
   refine tk 14 [15] (.pointer (some ⟨g, j, none⟩)) HS ?_; try simp only [sx]
   have hcj2 := (Ext.refl W1).drew.drew.drew.cell hcj
   have fj2 := (Ext.refl W1).drew.drew.drew.frozen hcj fj
   refine storeD 15 rfl rfl (by kernel_rfl) (by rfl) (w' := W1.drew.drew.drew.setCell ⟨g, j, none⟩ (.int .u32 (y % 256))) (by go_simp) (fun h => absurd (by decide) h) ?_
   refine wpAnyD_done (by kernel_rfl) ?_ _
   show _
   go_wp2_with fail
   go_ret2
   rw [← hR.out]
   exact ⟨_, V, rfl, Rd.nil _ 2, m1.out, (Chg.of_ext _ X1I.out.drew.drew.drew).trans m2.out (fun x hx => Or.inl hx), ToV.refl _ _ _⟩
  ·first | rw [if_pos rfl] at hR | rw [if_neg (by decide)] at hR
   replace hR := hidden hR
   obtain ⟨m1, m2⟩ := (h1.ext (Ext.refl W1).drew.drew.drew).cellr (i := 6 + k) (g := g) (cap := cap) (n := a.length) (sz := 1) (t := 42) (cs := a.map (Value.int .u32)) (s' := { s with ar := s.ar.set k (a.set j y) }) (by rw [rows_ar hv1 hv2]; unfold arow; rw [hm]) j (.int .u32 y) (by rw [rows_ar_set hv1]; unfold arow; simp only [List.map_set, List.length_set, hm]) (by simp) rfl
   replace m1 := hidden m1
   replace m2 := hidden m2
   clear hg hv1 hv2 hv3 hv4 ho hva hE hs hjm hvA hm hn hnA
   have X1I := hidden X1
   replace hW1 := hidden hW1
   clear h h1 X1 N1
   go_enter Tryz.func58, Tryz.ntmps58
   go_upto_region 1 with fail
   rw [hW1.out]
   clear hW1 hb
   go_upto_region 14 with fail
   refine wp_region_D (S := fun w' => w'.cell? ⟨q, 7, none⟩ = some (.slice (some ⟨ga, 0, none⟩) n ca) ∧ w'.cell? ⟨b, 1, none⟩ = some (.int .u32 (k : Int)) ∧ w'.cell? ⟨ga, k, none⟩ = some (.slice (some ⟨g, 0, none⟩) m cap) ∧ w'.cell? ⟨lb, lo + 1, none⟩ = some (.int .u32 (j : Int))) (D := []) (by kernel_rfl) ⟨c7, n1, ck, g1⟩ (fun HS => ?_)
   refine tk 0 [] (.slice (some ⟨lb, lo, none⟩) 2 lc) HS ?_; try simp only [sx]
   refine tk 1 [] (.pointer (some ⟨lb, lo, none⟩)) HS ?_; try simp only [sx]
   refine tk 2 [] (.pointer (some ⟨lb, lo + 1, none⟩)) HS ?_; try simp only [sx]
   refine tk 3 [] (.int .u32 (j : Int)) HS ?_; try simp only [sx]
   refine tk 4 [] (.int .i64 (j : Int)) HS ?_; try simp only [sx]
   refine tk 5 [] (.pointer (some ⟨q, 0, none⟩)) HS ?_; try simp only [sx]
   refine tk 6 [] (.pointer (some ⟨q, 0, none⟩)) HS ?_; try simp only [sx]
   refine tk 7 [] (.pointer (some ⟨q, 7, none⟩)) HS ?_; try simp only [sx]
   refine tk 8 [] (.pointer (some ⟨q, 7, none⟩)) HS ?_; try simp only [sx]
   refine tk 9 [] (.slice (some ⟨ga, 0, none⟩) n ca) HS ?_; try simp only [sx]
   refine tk 10 [] (.pointer (some ⟨b, 1, none⟩)) HS ?_; try simp only [sx]
   refine tk 11 [] (.int .u32 (k : Int)) HS ?_; try simp only [sx]
   refine tk 12 [] (.pointer (some ⟨ga, k, none⟩)) HS ?_; try simp only [sx]
   refine tk 13 [] (.slice (some ⟨g, 0, none⟩) m cap) HS ?_; try simp only [sx]
   refine tk 14 [] (.int .i64 (m : Int)) HS ?_; try simp only [sx]
   refine tk 15 [] (.bool false) HS ?_; try simp only [sx]
   refine wpAnyD_done (by kernel_rfl) ?_ _
   show _
   go_upto_region 17 with fail
   refine wp_region_D (S := fun w' => w'.cell? ⟨q, 0, none⟩ = some (.slice (some ⟨bA, oA, none⟩) nA capA) ∧ w'.cell? ⟨b, 1, none⟩ = some (.int .u32 (k : Int)) ∧ w'.cell? ⟨bA, oA + k * 2, none⟩ = some (.bool true)) (D := []) (by kernel_rfl) ⟨c0, n1, hcw⟩ (fun HS => ?_)
   refine tk 0 [] (.pointer (some ⟨q, 0, none⟩)) HS ?_; try simp only [sx]
   refine tk 1 [] (.pointer (some ⟨q, 0, none⟩)) HS ?_; try simp only [sx]
   refine tk 2 [] (.pointer (some ⟨q, 0, none⟩)) HS ?_; try simp only [sx]
   refine tk 3 [] (.pointer (some ⟨q, 0, none⟩)) HS ?_; try simp only [sx]
   refine tk 4 [] (.slice (some ⟨bA, oA, none⟩) nA capA) HS ?_; try simp only [sx]
   refine tk 5 [] (.pointer (some ⟨b, 1, none⟩)) HS ?_; try simp only [sx]
   refine tk 6 [] (.int .u32 (k : Int)) HS ?_; try simp only [sx]
   refine tk 7 [] (.pointer (some ⟨bA, oA + k * 2, none⟩)) HS ?_; try simp only [sx]
   refine tk 8 [] (.pointer (some ⟨bA, oA + k * 2, none⟩)) HS ?_; try simp only [sx]
   refine tk 9 [] (.bool true) HS ?_; try simp only [sx]
   refine tk 10 [] (.bool false) HS ?_; try simp only [sx]
   refine wpAnyD_done (by kernel_rfl) ?_ _
   show _
   go_upto_region 19 with fail
   have c7' := ((Ext.refl W1).drew.drew).cell c7
   have n1' := ((Ext.refl W1).drew.drew).cell n1
   have ck' := ((Ext.refl W1).drew.drew).cell ck
   have g1' := ((Ext.refl W1).drew.drew).cell g1
   refine wp_region_D (S := fun w' => w'.cell? ⟨q, 7, none⟩ = some (.slice (some ⟨ga, 0, none⟩) n ca) ∧ w'.cell? ⟨b, 1, none⟩ = some (.int .u32 (k : Int)) ∧ w'.cell? ⟨ga, k, none⟩ = some (.slice (some ⟨g, 0, none⟩) m cap) ∧ w'.cell? ⟨lb, lo + 1, none⟩ = some (.int .u32 (j : Int))) (D := [15]) (by kernel_rfl) ⟨c7', n1', ck', g1'⟩ (fun HS => ?_)
   refine tk 0 [1, 2, 3, 4, 7, 8, 14, 15] (.pointer (some ⟨q, 0, none⟩)) HS ?_; try simp only [sx]
   refine tk 1 [2, 3, 4, 7, 8, 14, 15] (.pointer (some ⟨q, 0, none⟩)) HS ?_; try simp only [sx]
   refine tk 2 [3, 4, 7, 8, 14, 15] (.pointer (some ⟨q, 7, none⟩)) HS ?_; try simp only [sx]
   refine tk 3 [4, 7, 8, 14, 15] (.pointer (some ⟨q, 7, none⟩)) HS ?_; try simp only [sx]
   refine tk 4 [7, 8, 14, 15] (.slice (some ⟨ga, 0, none⟩) n ca) HS ?_; try simp only [sx]
   refine tk 5 [6, 7, 8, 14, 15] (.pointer (some ⟨b, 1, none⟩)) HS ?_; try simp only [sx]
   refine tk 6 [7, 8, 14, 15] (.int .u32 (k : Int)) HS ?_; try simp only [sx]
   refine tk 7 [8, 14, 15] (.pointer (some ⟨ga, k, none⟩)) HS ?_; try simp only [sx]
   refine tk 8 [14, 15] (.slice (some ⟨g, 0, none⟩) m cap) HS ?_; try simp only [sx]
   refine tk 9 [10, 11, 12, 14, 15] (.slice (some ⟨lb, lo, none⟩) 2 lc) HS ?_; try simp only [sx]
   refine tk 10 [11, 12, 14, 15] (.pointer (some ⟨lb, lo, none⟩)) HS ?_; try simp only [sx]
   refine tk 11 [12, 14, 15] (.pointer (some ⟨lb, lo + 1, none⟩)) HS ?_; try simp only [sx]
   refine tk 12 [14, 15] (.int .u32 (j : Int)) HS ?_; try simp only [sx]
   refine tk 13 [14, 15] (.int .u32 y) HS ?_; try simp only [sx]
   refine tk 14 [15] (.pointer (some ⟨g, j, none⟩)) HS ?_; try simp only [sx]
   have hcj2 := (Ext.refl W1).drew.drew.drew.cell hcj
   have fj2 := (Ext.refl W1).drew.drew.drew.frozen hcj fj
   refine storeD 15 rfl rfl (by kernel_rfl) (by rfl) (w' := W1.drew.drew.drew.setCell ⟨g, j, none⟩ (.int .u32 y)) (by go_simp) (fun h => absurd (by decide) h) ?_
   refine wpAnyD_done (by kernel_rfl) ?_ _
   show _
   go_wp2_with fail
   go_ret2
   rw [← hR.out]
   exact ⟨_, V, rfl, Rd.nil _ 2, m1.out, (Chg.of_ext _ X1I.out.drew.drew.drew).trans m2.out (fun x hx => Or.inl hx), ToV.refl _ _ _⟩
end Go.Proofs.YtgjjklajipekdaaGreat
