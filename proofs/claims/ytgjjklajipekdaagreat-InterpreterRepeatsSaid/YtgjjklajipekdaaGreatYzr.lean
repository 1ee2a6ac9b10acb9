/- slices.Concat of code. -/
import Derived.Test.YtgjjklajipekdaaGreatYzm
import Derived.Laws.Append
namespace Go.Proofs.YtgjjklajipekdaaGreat
open Go.RowKit Go.Builtin
set_option linter.unusedVariables false
set_option linter.unusedSimpArgs false
attribute [local go_sem ↓] Go.wp_at_zero Go.wp_at_succ

section
variable {P : Program} (w : World)
theorem zcells_size (z : Array Value) (n : Nat) : (zeroCells z n).size = n * z.size := by simp [zeroCells]
/-- append(nil, make([]T, m)...): a new row of zeros. -/
theorem run_zeros_nil (t ti ty e : TypeId) (i : TypeInfo) (z : Value) (size bytes : Nat) (ht : P.underlying t = some (.slice e)) (hti : P.underlying ti = some (.int .i64)) (hi : P.info? e = some i) (hz : i.zero = some z)
    (hsize : i.size = size) (hby : i.bytes = bytes) (hzs : z.cells.size = size) (hsz : 0 < size) (m : Nat) (hm : 0 < m) (hm1 : m * bytes ≤ 140737488355328) (h63 : m ≤ maxLen) :
    ∃ cap cur, m ≤ cap ∧ cap ≤ maxLen ∧ cur.size = cap * size ∧ (append_ #[t, ti] ty #[.slice none 0 0, .int .i64 m]).run P w = .ok (.slice (some ⟨w.heap.size, 0, none⟩) m cap) (w.drew.alloc (.cells cur e)) := by
  subst hby
  have hsmall : m ≤ 9223372036854775807 := by simp only [maxLen] at h63; omega
  have hw1 : IntKind.i64.wrap (m : Int) = (m : Int) := IntWalk.i64_in _ (by omega)
  have hm2 : ¬ ((m : Int) < 0) := by omega
  have hmb : (m : Int) * (i.bytes : Int) ≤ 140737488355328 := by rw [← Int.natCast_mul]; exact Int.ofNat_le.2 hm1
  have hm3 : ¬ (281474976710656 < (m : Int) * (i.bytes : Int)) := by omega
  have hge := grownCap_ge w m 0 e
  have hcm : grownCap w m 0 e ≤ maxLen := grownCap_le_maxLen w m 0 e (by omega)
  have h63' : ¬ (9223372036854775807 < (m : Int)) := by omega
  have h48' : ¬ (281474976710656 < nextslicecap m 0 * i.bytes) := by rw [nextslicecap_zero (by omega)]; omega
  have hms : ¬ (m = 0 ∨ i.size = 0) := by omega
  have hms2 : ¬ (m = 0 ∨ size = 0) := by omega
  have hm0 : m ≠ 0 := by omega
  have hs0 : size ≠ 0 := by omega
  have hms3 : m * size ≠ 0 := Nat.mul_ne_zero hm0 hs0
  refine ⟨grownCap w m 0 e, zeroCells z.cells m ++ zeroCells z.cells (grownCap w m 0 e - m), hge, hcm, ?_, ?_⟩
  · simp only [Array.size_append, zcells_size, hzs]
    rw [← Nat.add_mul]
    congr 1
    omega
  · simp [append_, run_underlying ht, run_underlying hti, sizeOf, typeInfo, zeroValue, hi, hz, asInt, asIntOf, hw1, hm2, hm3, hm0, hs0, hms3, hsize, h63', h48', Question.forced, newRow, grownCap, run_firstCells_none]
theorem wpList_zeros_nil {ops : Array Oper} {rest : List Oper} {o : Oper} {a : Act} {Q : Exit → Act → World → Prop} (hgd : o.guard = none) (s x : Operand) (t ti : TypeId)
    (ho : o.op = .call { callee := .builtin .append, args := #[s, x], argTypes := #[t, ti] })
    (e : TypeId) (i : TypeInfo) (z : Value) (size bytes : Nat) (ht : P.underlying t = some (.slice e)) (hti : P.underlying ti = some (.int .i64)) (hi : P.info? e = some i) (hz : i.zero = some z)
    (hsize : i.size = size) (hby : i.bytes = bytes) (hzs : z.cells.size = size) (hsz : 0 < size) (hs : a.eval s = .slice none 0 0) (m : Nat) (hx : a.eval x = .int .i64 (m : Int)) (hm : 0 < m) (hm1 : m * bytes ≤ 140737488355328) (h63 : m ≤ maxLen)
    (h : ∀ cap cur, m ≤ cap → cap ≤ maxLen → cur.size = cap * size → wpList P ops Q rest (a.put o.dst (.slice (some ⟨w.heap.size, 0, none⟩) m cap)) (w.drew.alloc (.cells cur e))) :
    wpList P ops Q (o :: rest) a w := by
  refine wpList_plain hgd fun K hK => ?_
  obtain ⟨cap, cur, h1, h2, h3, hr⟩ := run_zeros_nil (P := P) w t ti o.type e i z size bytes ht hti hi hz hsize hby hzs hsz m hm hm1 h63
  unfold Oper.wp execOp
  simp only [ho, resolve, invoke, builtin, Sem.run_bind, Sem.run_pure, Result.andThen_ok, List.map_toArray, List.map_cons, List.map_nil, hs, hx, hr]
  exact hK _ _ (h cap cur h1 h2 h3)
end
set_option maxHeartbeats 4000000 in
set_option maxRecDepth 100000 in
theorem growI_any (n : Nat) (h0 : 0 < n) (h1 : n ≤ 1000) (w : World) :
    Calls Tryz.prog 44 #[.slice none 0 0, .int .i64 (n : Int)] w fun x w' => ∃ v, x = .returned v ∧ w'.ownsRow w.heap.size 63 2 v 0 [] ∧ Ext w w' := by
  obtain ⟨i0, hi, hz0, hz1, hz2⟩ := info_parts instr_info
  have hia := hidden hi
  clear hi
  have q0 : decide ((n : Int) < 0) = false := by simp
  have q1 : decide ((0 : Int) < (n : Int)) = true := by simp; omega
  have hnw : IntKind.i64.wrap (n : Int) = (n : Int) := IntWalk.i64_in _ (by omega)
  have hc0 := cut_own (P := Tryz.prog) Tryz.underlying23 (sz := 2) (fun w => by simp [go_sem, hia.out, hz1]) 0 0 0 none 0 rfl (by omega) (by omega)
  go_enter Tryz.func44, Tryz.ntmps44
  go_wp2_with (at_builtin; refine wpList_zeros_nil _ (by rfl) _ _ 23 3 (by rfl) 63 i0 (.agg #[.int .i64 0, .int .u32 0]) 2 16 Tryz.underlying23 Tryz.underlying3 hia.out hz0 hz1 hz2 rfl (by decide) (by rfl) n (by rfl) h0 (by omega) (by unfold maxLen; omega) ?_; intro cap cur k1 k2 k3; have hc1 := cut_own (P := Tryz.prog) Tryz.underlying23 (sz := 2) (fun w => by simp [go_sem, hia.out, hz1]) n cap 0 (some ⟨w.heap.size, 0, none⟩) 0 rfl (by omega) k1)
  go_ret
  refine ⟨_, rfl, ⟨rfl, Or.inr ⟨w.heap.size, cap, cur, rfl, Nat.le_refl _, heap_alloc_new w.drew (.cells cur 63), Nat.zero_le _, k2, k3, by simp⟩⟩, (Ext.refl w).drew.alloc _⟩
theorem flat_take_succ {α : Type} (Cs : List (List α)) (k : Nat) (C : List α) (h : Cs[k]? = some C) : (Cs.take (k + 1)).flatten = (Cs.take k).flatten ++ C := by
  rw [take_snoc' h, List.flatten_append]
  simp
theorem flat_take_le {α : Type} (Cs : List (List α)) (k : Nat) : (Cs.take k).flatten.length ≤ Cs.flatten.length := by
  conv => rhs; rw [← List.take_append_drop k Cs]
  rw [List.flatten_append, List.length_append]
  omega
set_option maxHeartbeats 4000000 in
set_option maxRecDepth 100000 in
theorem concat_any (v : Value) (vs : List Value) (Cs : List (List (Int × Int))) (w : World) (hr : Rd w 1 v Cs.length vs) (hv : ∀ (i : Nat) (v' : Value) (C : List (Int × Int)), vs[i]? = some v' → Cs[i]? = some C → Cod w v' C) (hpos : 0 < Cs.flatten.length) (hl : Cs.flatten.length ≤ 1000) (hN : Cs.length ≤ 10) :
    Calls Tryz.prog 25 #[v] w fun x w' => ∃ v', x = .returned v' ∧ w'.ownsRow w.heap.size 63 2 v' Cs.flatten.length (Cs.flatten.flatMap cI) ∧ Ext w w' := by
  obtain ⟨i0, hi, hz0, hz1, hz2⟩ := info_parts instr_info
  have hia := hidden hi
  obtain ⟨N, hNe⟩ : ∃ N, Cs.length = N := ⟨_, rfl⟩
  obtain ⟨T, hT⟩ : ∃ T, Cs.flatten.length = T := ⟨_, rfl⟩
  have hle := fun k => flat_take_le Cs k
  rw [hNe] at hr hN
  rw [hT] at hpos hl hle ⊢
  obtain ⟨a, cap, rfl, -⟩ := Rd.shape hr
  have hR := hidden hr
  have hV := hidden hv
  have hvl : vs.length = N := by have := hr.1; omega
  have hNI := hidden hNe
  have hTI := hidden hT
  replace hvl := hidden hvl
  have hgr := hidden (fun (W : World) => growI_any T hpos hl W)
  replace hle := hidden hle
  clear hi hr hv hNe hT
  go_enter Tryz.func25, Tryz.ntmps25
  go_wp2_with fail
  go_loopw [3, 11] (fun so ix wr => ∃ (k t : Nat), k ≤ N ∧ ix = .int .i64 (k : Int) ∧ so = .int .i64 (t : Int) ∧ Hid ((Cs.take k).flatten.length = t) ∧ Hid (Ext w wr)) (fun _ ix _ => (N - intOf ix).toNat)
  case atStart => exact ⟨0, 0, by omega, rfl, rfl, rfl, hidden (Ext.refl w)⟩
  case round =>
    obtain ⟨k, t, hk, rfl, rfl, ht, hE⟩ := hrel
    have hkw : IntKind.i64.wrap ((k : Int) + 1) = (k : Int) + 1 := IntWalk.i64_in _ (by omega)
    by_cases hlt : k < N
    · have hlt' : (k : Int) < (N : Int) := by omega
      obtain ⟨b, off, rfl, -, -⟩ := Rd.cells (cs := vs) (w := w) (sz := 1) hR.out (show 0 < N by omega)
      obtain ⟨x, hx⟩ : ∃ x, vs[k]? = some x := ⟨_, List.getElem?_eq_getElem (by rw [hvl.out]; exact hlt)⟩
      obtain ⟨C, hC⟩ : ∃ x, Cs[k]? = some x := ⟨_, List.getElem?_eq_getElem (by rw [hNI.out]; exact hlt)⟩
      obtain ⟨ax, cx, rfl, -⟩ := Rd.shape (hV.out k x C hx hC)
      have hcx := hE.out.cell (rd_at hR.out k _ hx)
      obtain ⟨cl, hcl⟩ : ∃ n, C.length = n := ⟨_, rfl⟩
      rw [hcl] at hcx
      have hts : Hid ((Cs.take (k + 1)).flatten.length = t + cl) := hidden (by rw [flat_take_succ Cs k C hC, List.length_append, ht.out, hcl])
      have hb := hle.out (k + 1)
      rw [hts.out] at hb
      have htw : IntKind.i64.wrap ((t : Int) + (cl : Int)) = (t : Int) + (cl : Int) := IntWalk.i64_in _ (by omega)
      have ht0 : decide ((t : Int) + (cl : Int) < 0) = false := by simp; omega
      clear hx hC hcl hb
      go_wp2_with fail
      go_roundw
      case rel => exact ⟨k + 1, t + cl, by omega, by go_num, by go_num, hts, hE⟩
      case measure => simp [intOf]; omega
    · have hlt' : ¬ (k : Int) < (N : Int) := by omega
      have hkN : k = N := by omega
      rw [hkN] at ht
      have htT : t = T := by rw [← ht.out, ← hTI.out, List.take_of_length_le (by rw [hNI.out]; exact Nat.le_refl _)]
      subst htT
      go_wp2_with fail
      refine (hgr.out wr).mono ?_
      rintro x w1 ⟨v1, rfl, hO1, hX1⟩
      have hO1I := hidden (own_mono hO1 hE.out.size)
      have hX1I := hidden (hE.out.trans hX1)
      clear hO1 hX1 hgr
      go_wp2_with fail
      go_loopw [6, 27] (fun so ix wr => ∃ (k : Nat) (a1 : Option Addr) (c1 t : Nat), k ≤ N ∧ ix = .int .i64 (k : Int) ∧ so = .slice a1 t c1 ∧ Hid ((Cs.take k).flatten.length = t) ∧ Hid (wr.ownsRow w.heap.size 63 2 (.slice a1 t c1) t ((Cs.take k).flatten.flatMap cI)) ∧ Hid (Ext w wr)) (fun _ ix _ => (N - intOf ix).toNat)
      case atStart =>
        obtain ⟨a1, c1, rfl, -⟩ := own_shape hO1I.out
        exact ⟨0, a1, c1, 0, by omega, rfl, rfl, rfl, hO1I, hX1I⟩
      case round =>
        obtain ⟨k, a1, c1, t, hk, rfl, rfl, ht, hO, hE⟩ := hrel
        obtain ⟨W, hWW⟩ : ∃ Z, Z = wr := ⟨_, rfl⟩
        subst hWW
        have hkw : IntKind.i64.wrap ((k : Int) + 1) = (k : Int) + 1 := IntWalk.i64_in _ (by omega)
        by_cases hlt : k < N
        · have hlt' : (k : Int) < (N : Int) := by omega
          obtain ⟨b, off, rfl, -, -⟩ := Rd.cells (cs := vs) (w := w) (sz := 1) hR.out (show 0 < N by omega)
          obtain ⟨x, hx⟩ : ∃ x, vs[k]? = some x := ⟨_, List.getElem?_eq_getElem (by rw [hvl.out]; exact hlt)⟩
          obtain ⟨C, hC⟩ : ∃ x, Cs[k]? = some x := ⟨_, List.getElem?_eq_getElem (by rw [hNI.out]; exact hlt)⟩
          have hcod := hV.out k x C hx hC
          obtain ⟨ax, cx, rfl, -⟩ := Rd.shape hcod
          have hcx := hE.out.cell (rd_at hR.out k _ hx)
          obtain ⟨cl, hcl⟩ : ∃ n, C.length = n := ⟨_, rfl⟩
          rw [hcl] at hcx
          have hco := hidden (show Rd W 2 (.slice ax cl cx) cl (C.flatMap cI) by have := Rd.ext hcod hE.out; unfold Cod at this; rw [hcl] at this; exact this)
          have hts : Hid ((Cs.take (k + 1)).flatten.length = t + cl) := hidden (by rw [flat_take_succ Cs k C hC, List.length_append, ht.out, hcl])
          have hfl : Hid ((Cs.take (k + 1)).flatten.flatMap cI = (Cs.take k).flatten.flatMap cI ++ C.flatMap cI) := hidden (by rw [flat_take_succ Cs k C hC, List.flatMap_append])
          have hb := hle.out (k + 1)
          rw [hts.out] at hb
          have hone : ∀ u ∈ C.flatMap cI, u.oneCell' = true := fun u hu => by
            obtain ⟨y, -, hy⟩ := List.mem_flatMap.1 hu
            simp only [cI, List.mem_cons, List.not_mem_nil, or_false] at hy
            rcases hy with rfl | rfl <;> rfl
          clear hx hC hcl hcod
          go_wp2_with (at_builtin; refine wpList_append_rd (by rfl) _ _ 23 (by rfl) w.heap.size 63 i0 (.agg #[.int .i64 0, .int .u32 0]) 2 16 Tryz.underlying23 hia.out hz0 hz1 hz2 rfl (by decide) (.slice a1 t c1) t ((Cs.take k).flatten.flatMap cI) (by rfl) hO.out ax cl cx (C.flatMap cI) (by rfl) hco.out hone (by unfold maxLen; omega) (by omega) hE.out.size ?_; intro v' w4 hown4 hgrow4 hat4)
          obtain ⟨a4, c4, rfl, -⟩ := own_shape hown4
          have hO4 : Hid (w4.ownsRow w.heap.size 63 2 (.slice a4 (t + cl) c4) (t + cl) ((Cs.take (k + 1)).flatten.flatMap cI)) := hidden (by rw [hfl.out]; exact hown4)
          have hX4 := hidden ((Chg.of_ext [] hE.out).grown hgrow4 (fun k hk => Or.inr (own_lt hO.out hk).1)).ext
          clear hown4 hgrow4 hat4 hone
          go_wp2_with fail
          go_roundw
          case rel => exact ⟨k + 1, a4, c4, t + cl, by omega, by go_num, rfl, hts, hO4, hX4⟩
          case measure => simp [intOf]; omega
        · have hlt' : ¬ (k : Int) < (N : Int) := by omega
          obtain rfl : N = k := by omega
          have hte : Hid (Cs.take N = Cs) := hidden (List.take_of_length_le (by rw [hNI.out]; exact Nat.le_refl _))
          have htT := ht.out
          rw [hte.out, hTI.out] at htT
          subst htT
          rw [hte.out] at hO
          go_wp2_with fail
          go_ret
          exact ⟨_, rfl, hO.out, hE.out⟩
end Go.Proofs.YtgjjklajipekdaaGreat
