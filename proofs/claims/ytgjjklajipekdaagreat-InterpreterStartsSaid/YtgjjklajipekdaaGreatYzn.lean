/- Layer 22: memories and results that are equal. -/
import Derived.Test.YtgjjklajipekdaaGreatYzm
import Derived.Lib.SlBytesRow
import Derived.Lib.BufferRead
namespace Go.Proofs.YtgjjklajipekdaaGreat
open Go.RowKit
set_option linter.unusedVariables false
set_option linter.unusedSimpArgs false
attribute [local go_sem ↓] Go.wp_at_zero Go.wp_at_succ

theorem samenum_eq (va vb : Value) (l : List Int) (w : World) (ha : R32 w va l) (hb : R32 w vb l) :
    Calls Tryz.prog 33 #[va, vb] w fun x w' => x = .returned (.bool true) ∧ Ext w w' := by
  have := samenum_any va vb l l w ha hb
  simpa using this
set_option maxHeartbeats 4000000 in
set_option maxRecDepth 100000 in
theorem samemem_any (va vc va' vc' : Value) (ar : List (List Int)) (cx : List Int) (w : World) (h : MemR w va vc ar cx) (h' : MemR w va' vc' ar cx) :
    Calls Tryz.prog 15 #[.agg #[va, vc], .agg #[va', vc']] w fun x w' => x = .returned (.bool true) ∧ Ext w w' := by
  obtain ⟨b, hb⟩ : ∃ b, w.heap.size = b := ⟨_, rfl⟩
  obtain ⟨b1, hb1⟩ : ∃ b1, b + 1 = b1 := ⟨_, rfl⟩
  obtain ⟨rl, hrl⟩ : ∃ n, ar.length = n := ⟨_, rfl⟩
  have X1 := (Ext.refl w).alloc (.cells #[va, vc] 29)
  have P1 := blk_at1 w [va, vc] 29 b hb
  obtain ⟨W1, hW1⟩ : ∃ W, w.alloc (.cells #[va, vc] 29) = W := ⟨_, rfl⟩
  have s1 : W1.heap.size = b1 := by rw [← hW1, ← hb1, ← hb]; exact Array.size_push ..
  rw [show (w.alloc (.cells ([va, vc] : List Value).toArray 29)) = W1 from hW1] at P1
  rw [hW1] at X1
  have X2 := (Ext.refl W1).alloc (.cells #[va', vc'] 29)
  have P2 := blk_at1 W1 [va', vc'] 29 b1 s1
  obtain ⟨W4, hW4⟩ : ∃ W, W1.alloc (.cells #[va', vc'] 29) = W := ⟨_, rfl⟩
  rw [show (W1.alloc (.cells ([va', vc'] : List Value).toArray 29)) = W4 from hW4] at P2
  rw [hW4] at X2
  have hW : Hid (((w.alloc (.cells #[va, vc] 29)).alloc (.cells #[va', vc'] 29)) = W4) := hidden (by rw [hW1, hW4])
  replace P1 := P1.ext X2
  have XW := hidden (X1.trans X2)
  obtain ⟨vs, m1, m2, m3⟩ := h.ext XW.out
  obtain ⟨vs', n1, n2, n3⟩ := h'.ext XW.out
  rw [hrl] at m1 n1
  obtain ⟨am, cm, rfl, -⟩ := Rd.shape m1
  obtain ⟨an, cn, rfl, -⟩ := Rd.shape n1
  obtain ⟨ax, cxx, rfl, -⟩ := Rd.shape m3
  obtain ⟨ay, cyy, rfl, -⟩ := Rd.shape n3
  have hcx := hidden (samenum_eq _ _ cx W4 m3 n3)
  have m1I := hidden m1
  have m2I := hidden m2
  have n1I := hidden n1
  have n2I := hidden n2
  have p0 := P1.cell 0 _ rfl
  have p1 := P1.cell 1 _ rfl
  have q0 := P2.cell 0 _ rfl
  have q1 := P2.cell 1 _ rfl
  have P1I := hidden P1
  have P2I := hidden P2
  have hrlI := hidden hrl
  obtain ⟨xl, hxl⟩ : ∃ n, cx.length = n := ⟨_, rfl⟩
  rw [hxl] at p1 q1 hcx P1I P2I hW
  rw [hxl]
  clear X1 X2 P1 P2 hW1 hW4 s1 m1 m2 m3 n1 n2 n3 h h' hrl hxl
  clear W1
  go_enter Tryz.func15, Tryz.ntmps15
  go_upto_region 1 with fail
  rw [hW.out]
  go_wp2_with fail
  refine hcx.out.mono ?_
  rintro x w1 ⟨rfl, hX⟩
  have hXI := hidden hX
  clear p0 p1 q0 q1 hcx hX hW
  go_wp2_with fail
  go_loopw [5] (fun ix wr => ∃ k : Nat, k ≤ rl ∧ ix = .int .i64 (k : Int) ∧ Hid (Ext W4 wr)) (fun ix _ => (rl - intOf ix).toNat)
  case atStart => exact ⟨0, by omega, rfl, hXI⟩
  case round =>
    obtain ⟨k, hk, rfl, hE⟩ := hrel
    obtain ⟨W1, hWW⟩ : ∃ Z, Z = wr := ⟨_, rfl⟩
    subst hWW
    have d0 := (P1I.out.ext hE.out).cell 0 _ rfl
    have d1 := (P2I.out.ext hE.out).cell 0 _ rfl
    by_cases hlt : k < rl
    · have hlt' : (k : Int) < (rl : Int) := by omega
      have hkw : IntKind.i64.wrap ((k : Int) + 1) = (k : Int) + 1 := by
        obtain ⟨a, cap, e, e1, e2, -⟩ := Rd.shape m1I.out
        exact IntWalk.i64_in _ (by omega)
      obtain ⟨mb, mo, rfl, -, -⟩ := Rd.cells (cs := vs) (w := W4) (sz := 1) m1I.out (show 0 < rl by omega)
      obtain ⟨nb, no, rfl, -, -⟩ := Rd.cells (cs := vs') (w := W4) (sz := 1) n1I.out (show 0 < rl by omega)
      have l1 : vs.length = rl := by have := m1I.out.1; omega
      have l2 : vs'.length = rl := by have := n1I.out.1; omega
      obtain ⟨v, hv⟩ : ∃ v, vs[k]? = some v := ⟨_, List.getElem?_eq_getElem (by omega)⟩
      obtain ⟨v', hv'⟩ : ∃ v, vs'[k]? = some v := ⟨_, List.getElem?_eq_getElem (by omega)⟩
      obtain ⟨a, ha⟩ : ∃ a, ar[k]? = some a := ⟨_, List.getElem?_eq_getElem (by rw [hrlI.out]; omega)⟩
      have e1 := m2I.out k v a hv ha
      have e2 := n2I.out k v' a hv' ha
      obtain ⟨ae, ce, rfl, -⟩ := Rd.shape e1
      obtain ⟨ag, cg, rfl, -⟩ := Rd.shape e2
      have d2 := hE.out.cell (rd_at m1I.out k _ hv)
      have d3 := hE.out.cell (rd_at n1I.out k _ hv')
      have hcon := hidden (fun (W : World) (h : Ext W1 W) => samenum_eq _ _ a W (e1.ext (hE.out.trans h)) (e2.ext (hE.out.trans h)))
      obtain ⟨s, hs⟩ : ∃ s, a.length = s := ⟨_, rfl⟩
      rw [hs] at d2 d3 hcon
      clear hv hv' ha e1 e2 l1 l2 hs
      go_upto_region 6 with fail
      refine wp_region_D (S := fun w' => w'.cell? ⟨b, 0, none⟩ = some (.slice (some ⟨mb, mo, none⟩) rl cm) ∧ w'.cell? ⟨b1, 0, none⟩ = some (.slice (some ⟨nb, no, none⟩) rl cn) ∧ w'.cell? ⟨mb, mo + k, none⟩ = some (.slice ae s ce) ∧ w'.cell? ⟨nb, no + k, none⟩ = some (.slice ag s cg)) (D := []) (by kernel_rfl) ⟨d0, d1, d2, d3⟩ (fun HS => ?_)
      refine takeD 0 [1, 3, 4, 10, 11] (.pointer (some ⟨b, 0, none⟩)) rfl rfl (by kernel_rfl) (by kernel_rfl) (by kernel_rfl) (by kernel_rfl) (by decide) (by decide) (fun _ _ _ h => h) (by rfl) (fun w' hw' => by go_simp) HS ?_
      try simp only [List.setIfInBounds_toArray, List.set_cons_zero, List.set_cons_succ]
      refine takeD 1 [3, 4, 10, 11] (.slice (some ⟨mb, mo, none⟩) rl cm) rfl rfl (by kernel_rfl) (by kernel_rfl) (by kernel_rfl) (by kernel_rfl) (by decide) (by decide) (fun _ _ _ h => h) (by rfl) (fun w' hw' => by obtain ⟨hw0, hw1, hw2, hw3⟩ := hw'; go_simp) HS ?_
      try simp only [List.setIfInBounds_toArray, List.set_cons_zero, List.set_cons_succ]
      refine takeD 2 [3, 4, 10, 11] (.int .i64 (k : Int)) rfl rfl (by kernel_rfl) (by kernel_rfl) (by kernel_rfl) (by kernel_rfl) (by decide) (by decide) (fun _ _ _ h => h) (by rfl) (fun w' hw' => by go_simp) HS ?_
      try simp only [List.setIfInBounds_toArray, List.set_cons_zero, List.set_cons_succ]
      refine takeD 3 [4, 10, 11] (.pointer (some ⟨mb, mo + k, none⟩)) rfl rfl (by kernel_rfl) (by kernel_rfl) (by kernel_rfl) (by kernel_rfl) (by decide) (by decide) (fun _ _ _ h => h) (by rfl) (fun w' hw' => by go_simp) HS ?_
      try simp only [List.setIfInBounds_toArray, List.set_cons_zero, List.set_cons_succ]
      refine takeD 4 [10, 11] (.slice ae s ce) rfl rfl (by kernel_rfl) (by kernel_rfl) (by kernel_rfl) (by kernel_rfl) (by decide) (by decide) (fun _ _ _ h => h) (by rfl) (fun w' hw' => by obtain ⟨hw0, hw1, hw2, hw3⟩ := hw'; go_simp) HS ?_
      try simp only [List.setIfInBounds_toArray, List.set_cons_zero, List.set_cons_succ]
      refine takeD 5 [6, 8, 9, 10, 11] (.pointer (some ⟨b1, 0, none⟩)) rfl rfl (by kernel_rfl) (by kernel_rfl) (by kernel_rfl) (by kernel_rfl) (by decide) (by decide) (fun _ _ _ h => h) (by rfl) (fun w' hw' => by go_simp) HS ?_
      try simp only [List.setIfInBounds_toArray, List.set_cons_zero, List.set_cons_succ]
      refine takeD 6 [8, 9, 10, 11] (.slice (some ⟨nb, no, none⟩) rl cn) rfl rfl (by kernel_rfl) (by kernel_rfl) (by kernel_rfl) (by kernel_rfl) (by decide) (by decide) (fun _ _ _ h => h) (by rfl) (fun w' hw' => by obtain ⟨hw0, hw1, hw2, hw3⟩ := hw'; go_simp) HS ?_
      try simp only [List.setIfInBounds_toArray, List.set_cons_zero, List.set_cons_succ]
      refine takeD 7 [8, 9, 10, 11] (.int .i64 (k : Int)) rfl rfl (by kernel_rfl) (by kernel_rfl) (by kernel_rfl) (by kernel_rfl) (by decide) (by decide) (fun _ _ _ h => h) (by rfl) (fun w' hw' => by go_simp) HS ?_
      try simp only [List.setIfInBounds_toArray, List.set_cons_zero, List.set_cons_succ]
      refine takeD 8 [9, 10, 11] (.pointer (some ⟨nb, no + k, none⟩)) rfl rfl (by kernel_rfl) (by kernel_rfl) (by kernel_rfl) (by kernel_rfl) (by decide) (by decide) (fun _ _ _ h => h) (by rfl) (fun w' hw' => by go_simp) HS ?_
      try simp only [List.setIfInBounds_toArray, List.set_cons_zero, List.set_cons_succ]
      refine takeD 9 [10, 11] (.slice ag s cg) rfl rfl (by kernel_rfl) (by kernel_rfl) (by kernel_rfl) (by kernel_rfl) (by decide) (by decide) (fun _ _ _ h => h) (by rfl) (fun w' hw' => by obtain ⟨hw0, hw1, hw2, hw3⟩ := hw'; go_simp) HS ?_
      try simp only [List.setIfInBounds_toArray, List.set_cons_zero, List.set_cons_succ]
      refine callVD 10 33 #[.slice ae s ce, .slice ag s cg] rfl rfl (by kernel_rfl) (by rfl) (by go_simp) (hcon.out W1.drew (Ext.refl W1).drew) ?_
      rintro x w2 ⟨rfl, hX2⟩
      have HS2 := hidden (And.intro (hX2.cell HS.1) (And.intro (hX2.cell HS.2.1) (And.intro (hX2.cell HS.2.2.1) (hX2.cell HS.2.2.2))))
      refine Or.inl ⟨_, rfl, fun _ => HS2.out, ?_⟩
      try simp only [Act.put, List.setIfInBounds_toArray, List.set_cons_zero, List.set_cons_succ]
      refine takeD 11 [] (.bool false) rfl rfl (by kernel_rfl) (by kernel_rfl) (by kernel_rfl) (by kernel_rfl) (by decide) (by decide) (fun _ _ _ h => h) (by rfl) (fun w' hw' => by go_simp) HS2.out ?_
      try simp only [List.setIfInBounds_toArray, List.set_cons_zero, List.set_cons_succ]
      refine wpAnyD_done (by kernel_rfl) ?_ _
      show _
      have hE2 := hidden (hE.out.trans ((Ext.refl W1).drew.trans hX2))
      clear HS2 hX2 HS
      go_wp2_with fail
      go_roundw
      case rel => exact ⟨k + 1, by omega, by go_num, hE2⟩
      case measure => simp [intOf]; omega
    · have hlt' : ¬ (k : Int) < (rl : Int) := by omega
      go_wp2_with fail
      go_ret
      exact ⟨rfl, XW.out.trans hE.out⟩
/-- The bytes as a string. -/
def strL (l : List Int) : ByteArray := ⟨(l.map fun x => UInt8.ofNat x.toNat).toArray⟩
theorem strL_size (l : List Int) : (strL l).size = l.length := by unfold strL; simp [ByteArray.size]
theorem conv_any (v : Value) (l : List Int) (w : World) (h : Rd w 1 v l.length (l.map (Value.int .u8))) (hb : ∀ x ∈ l, 0 ≤ x ∧ x ≤ 255) : (convert 46 9 v).run Tryz.prog w = .ok (.string (strL l)) w := by
  obtain ⟨a, cap, rfl, h1, h2, h3⟩ := Rd.shape h
  by_cases h0 : l.length = 0
  · obtain rfl : l = [] := List.eq_nil_of_length_eq_zero h0
    cases a with
    | none => exact Lib.run_convert_nil_bytes w _ _ 5 cap Tryz.underlying46 Tryz.underlying5 Tryz.underlying9
    | some ad =>
      rw [run_convert_bytes_string w 46 9 5 (some ad) _ cap Tryz.underlying46 Tryz.underlying5 Tryz.underlying9]
      simp [Conv.bytesToString, strL]
      try rfl
  · obtain ⟨b, o, rfl, -, -⟩ := Rd.cells h (by omega)
    have := Lib.run_convert_whole (P := Tryz.prog) w 46 5 9 Tryz.underlying46 Tryz.underlying5 Tryz.underlying9 b o (strL l) (fun i hi => by
      have hi' : i < l.length := by rw [strL_size] at hi; exact hi
      have hx := hb l[i] (List.getElem_mem hi')
      rw [rd_at h i (.int .u8 l[i]) (by rw [List.getElem?_map, List.getElem?_eq_getElem hi']; rfl)]
      have e : (strL l)[i] = UInt8.ofNat l[i].toNat := by
        show (strL l).data[i]'hi = _
        simp [strL]
      rw [e]
      simp
      omega) cap
    rw [strL_size] at this
    exact this
set_option maxHeartbeats 4000000 in
set_option maxRecDepth 100000 in
theorem sameres_any (va vc vo va' vc' vo' : Value) (ar : List (List Int)) (cx out : List Int) (st : Int) (w : World) (h : MemR w va vc ar cx) (h' : MemR w va' vc' ar cx) (ho : Rd w 1 vo out.length (out.map (Value.int .u8))) (ho' : Rd w 1 vo' out.length (out.map (Value.int .u8))) (hb : ∀ x ∈ out, 0 ≤ x ∧ x ≤ 255) :
    Calls Tryz.prog 43 #[.agg #[va, vc, vo, .int .i64 st], .agg #[va', vc', vo', .int .i64 st]] w fun x w' => x = .returned (.bool true) ∧ Ext w w' := by
  obtain ⟨b, hb0⟩ : ∃ b, w.heap.size = b := ⟨_, rfl⟩
  obtain ⟨b1, hb1⟩ : ∃ b1, b + 1 = b1 := ⟨_, rfl⟩
  have X1 := (Ext.refl w).alloc (.cells #[va, vc, vo, .int .i64 st] 48)
  have P1 := blk_at1 w [va, vc, vo, .int .i64 st] 48 b hb0
  obtain ⟨W1, hW1⟩ : ∃ W, w.alloc (.cells #[va, vc, vo, .int .i64 st] 48) = W := ⟨_, rfl⟩
  have s1 : W1.heap.size = b1 := by rw [← hW1, ← hb1, ← hb0]; exact Array.size_push ..
  rw [show (w.alloc (.cells ([va, vc, vo, .int .i64 st] : List Value).toArray 48)) = W1 from hW1] at P1
  rw [hW1] at X1
  have X2 := (Ext.refl W1).alloc (.cells #[va', vc', vo', .int .i64 st] 48)
  have P2 := blk_at1 W1 [va', vc', vo', .int .i64 st] 48 b1 s1
  obtain ⟨W4, hW4⟩ : ∃ W, W1.alloc (.cells #[va', vc', vo', .int .i64 st] 48) = W := ⟨_, rfl⟩
  rw [show (W1.alloc (.cells ([va', vc', vo', .int .i64 st] : List Value).toArray 48)) = W4 from hW4] at P2
  rw [hW4] at X2
  have hW : Hid (((w.alloc (.cells #[va, vc, vo, .int .i64 st] 48)).alloc (.cells #[va', vc', vo', .int .i64 st] 48)) = W4) := hidden (by rw [hW1, hW4])
  replace P1 := P1.ext X2
  have XW := hidden (X1.trans X2)
  have r1 := conv_any vo out W4 (Rd.ext ho XW.out) hb
  have r2 := conv_any vo' out W4 (Rd.ext ho' XW.out) hb
  have hc := hidden (samemem_any va vc va' vc' ar cx W4 (h.ext XW.out) (h'.ext XW.out))
  have p0 := P1.cell 0 _ rfl
  have p1 := P1.cell 1 _ rfl
  have p2 := P1.cell 2 _ rfl
  have p3 := P1.cell 3 _ rfl
  have q0 := P2.cell 0 _ rfl
  have q1 := P2.cell 1 _ rfl
  have q2 := P2.cell 2 _ rfl
  have q3 := P2.cell 3 _ rfl
  clear X1 X2 P1 P2 hW1 hW4 s1 h h' ho ho'
  clear W1
  go_enter Tryz.func43, Tryz.ntmps43
  go_upto_region 1 with fail
  rw [hW.out]
  clear hW
  go_wp2_with fail
  refine hc.out.mono ?_
  rintro x w1 ⟨rfl, hX⟩
  have hXI := hidden hX
  clear hc hX p0 p1 p2 p3 q0 q1 q2 q3
  go_wp2_with fail
  go_ret
  exact ⟨rfl, XW.out.trans hXI.out⟩
set_option maxHeartbeats 4000000 in
set_option maxRecDepth 100000 in
theorem same22_any (va vc vo va' vc' vo' : Value) (ar : List (List Int)) (cx out : List Int) (st : Int) (w : World) (h : MemR w va vc ar cx) (h' : MemR w va' vc' ar cx) (ho : Rd w 1 vo out.length (out.map (Value.int .u8))) (ho' : Rd w 1 vo' out.length (out.map (Value.int .u8))) (hb : ∀ x ∈ out, 0 ≤ x ∧ x ≤ 255) :
    Calls Tryz.prog 21 #[.agg #[va, vc, vo, .int .i64 st], .agg #[va', vc', vo', .int .i64 st]] w fun x w' => x = .returned (.bool true) ∧ Ext w w' := by
  obtain ⟨b, hb0⟩ : ∃ b, w.heap.size = b := ⟨_, rfl⟩
  obtain ⟨b1, hb1⟩ : ∃ b1, b + 1 = b1 := ⟨_, rfl⟩
  have X1 := (Ext.refl w).alloc (.cells #[va, vc, vo, .int .i64 st] 48)
  have P1 := blk_at1 w [va, vc, vo, .int .i64 st] 48 b hb0
  obtain ⟨W1, hW1⟩ : ∃ W, w.alloc (.cells #[va, vc, vo, .int .i64 st] 48) = W := ⟨_, rfl⟩
  have s1 : W1.heap.size = b1 := by rw [← hW1, ← hb1, ← hb0]; exact Array.size_push ..
  rw [show (w.alloc (.cells ([va, vc, vo, .int .i64 st] : List Value).toArray 48)) = W1 from hW1] at P1
  rw [hW1] at X1
  have X2 := (Ext.refl W1).alloc (.cells #[va', vc', vo', .int .i64 st] 48)
  have P2 := blk_at1 W1 [va', vc', vo', .int .i64 st] 48 b1 s1
  obtain ⟨W4, hW4⟩ : ∃ W, W1.alloc (.cells #[va', vc', vo', .int .i64 st] 48) = W := ⟨_, rfl⟩
  rw [show (W1.alloc (.cells ([va', vc', vo', .int .i64 st] : List Value).toArray 48)) = W4 from hW4] at P2
  rw [hW4] at X2
  have hW : Hid (((w.alloc (.cells #[va, vc, vo, .int .i64 st] 48)).alloc (.cells #[va', vc', vo', .int .i64 st] 48)) = W4) := hidden (by rw [hW1, hW4])
  replace P1 := P1.ext X2
  have XW := hidden (X1.trans X2)
  have hc := hidden (sameres_any va vc vo va' vc' vo' ar cx out st W4 (h.ext XW.out) (h'.ext XW.out) (Rd.ext ho XW.out) (Rd.ext ho' XW.out) hb)
  have p0 := P1.cell 0 _ rfl
  have p1 := P1.cell 1 _ rfl
  have p2 := P1.cell 2 _ rfl
  have p3 := P1.cell 3 _ rfl
  have q0 := P2.cell 0 _ rfl
  have q1 := P2.cell 1 _ rfl
  have q2 := P2.cell 2 _ rfl
  have q3 := P2.cell 3 _ rfl
  clear X1 X2 P1 P2 hW1 hW4 s1 h h' ho ho'
  clear W1
  go_enter Tryz.func21, Tryz.ntmps21
  go_upto_region 1 with fail
  rw [hW.out]
  clear hW
  go_wp2_with fail
  refine hc.out.mono ?_
  rintro x w1 ⟨rfl, hX⟩
  have hXI := hidden hX
  clear hc hX p0 p1 p2 p3 q0 q1 q2 q3
  go_wp2_with fail
  go_ret
  exact ⟨rfl, XW.out.trans hXI.out⟩
end Go.Proofs.YtgjjklajipekdaaGreat

/- A program needs exactly the steps that it counts: for every program, data and number more. -/
namespace Go.Proofs.YtgjjklajipekdaaGreat
open Go.RowKit
set_option linter.unusedVariables false
set_option linter.unusedSimpArgs false
attribute [local go_sem ↓] Go.wp_at_zero Go.wp_at_succ

theorem feed_ne0 {A : List (Bool × Int)} {L : Int} {C : List (Int × Int)} {D : List Int} {fu : Int} (hC : OkI C) (hu : usE A L C = 0) (hD : ∀ x ∈ D, 0 ≤ x ∧ x ≤ 255) {e : Int} : ∀ (m i : Nat) (ar : List (List Int)) (cx out : List Int) (st : Int), Mid A ar cx out st fu → feedF A L C D fu m i ar cx out st = .error e → e ≠ 0
  | 0, i, ar, cx, out, st, hm, h => by unfold feedF at h; cases h
  | m + 1, i, ar, cx, out, st, hm, h => by
    unfold feedF at h
    obtain ⟨inp, hinp⟩ : ∃ inp, (if i < D.length then D.getD i 0 else 0) = inp := ⟨_, rfl⟩
    have hi : U32 inp := by
      rw [← hinp]
      by_cases hlt : i < D.length
      · rw [if_pos hlt]
        have := hD _ (getD_mem (d := 0) hlt)
        exact ⟨by omega, by omega⟩
      · rw [if_neg hlt]; exact ⟨by decide, by decide⟩
    rw [hinp] at h
    cases hr : runR A L C ar cx inp (decide (i = D.length)) (fu - st) with
    | error e' =>
      rw [hr] at h
      simp only [Except.error.injEq] at h
      subst h
      obtain ⟨e1, -, -, n, hn⟩ := mid_run (L := L) (en := decide (i = D.length)) (inp := inp) hC hu hi hm
      rw [e1] at hr
      rw [hr] at hn
      exact ne0_run _ _ hn
    | ok r =>
      obtain ⟨ar1, cx1, out1, st1⟩ := r
      rw [hr] at h
      simp only at h
      by_cases hl : 65536 < (out ++ out1).length
      · rw [if_pos hl] at h
        simp only [Except.error.injEq] at h
        subst h; decide
      · rw [if_neg hl] at h
        exact feed_ne0 hC hu hD m (i + 1) _ _ _ _ (mid_after hC hu hi hm hr (by omega)) h
theorem feedR_ne0 {A : List (Bool × Int)} {L : Int} {C : List (Int × Int)} {D : List Int} {fu e : Int} (hC : OkI C) (hD : ∀ x ∈ D, 0 ≤ x ∧ x ≤ 255) (h : feedR A L C D fu = .error e) : e ≠ 0 := by
  unfold feedR at h
  by_cases hu : usE A L C = 0
  · rw [if_neg (by simpa using hu)] at h
    by_cases hd : 65536 < D.length
    · rw [if_pos hd] at h
      simp only [Except.error.injEq] at h
      subst h; decide
    · rw [if_neg hd] at h
      by_cases hf : 0 ≤ fu ∧ fu ≤ 281474976710656
      · rw [if_pos hf] at h
        exact feed_ne0 hC hu hD _ _ _ _ _ _ (mid_start (formE_ok (usE_ok hu).1).2.1 hf.1 hf.2) h
      · rw [if_neg hf] at h
        simp only [Except.error.injEq] at h
        subst h; decide
  · rw [if_pos (by simpa using hu)] at h
    simp only [Except.error.injEq] at h
    subst h; exact hu
set_option maxHeartbeats 4000000 in
set_option maxRecDepth 100000 in
theorem InterpreterSpends_law (va : Value) (A : List (Bool × Int)) (L : Int) (vc : Value) (C : List (Int × Int)) (vd : Value) (D : List Int) (more : Int) (hA : OkA A) (hL0 : -9223372036854775808 ≤ L) (hL1 : L ≤ 9223372036854775807) (hC : OkI C) (hD : ∀ x ∈ D, 0 ≤ x ∧ x ≤ 255) (hm0 : 0 ≤ more) (hm1 : more ≤ 255) (w : World) (ra : Rd w 2 va A.length (A.flatMap cA)) (rc : Rd w 2 vc C.length (C.flatMap cI)) (rd : Rd w 1 vd D.length (D.map (Value.int .u8))) :
    Calls Tryz.prog 7 #[.agg #[va, .int .i64 L, vc], vd, .int .u8 more] w fun x w' => x = .returned (.bool true) ∧ Ext w w' := by
  have hfe := hidden (fun (fu : Int) (hf0 : -9223372036854775808 ≤ fu) (hf1 : fu ≤ 9223372036854775807) (W : World) (h : Ext w W) => ifeed_any va vc vd A L C D fu hA hC hL0 hL1 hf0 hf1 hD W (Rd.ext ra h) (Rd.ext rc h) (Rd.ext rd h))
  have hfw := hidden (fun (W : World) (h : Ext w W) => fewP_any va vc A L C W (Rd.ext ra h) (Rd.ext rc h))
  have haw := hidden awake_any
  have hne := hidden (fun (e : Int) => feedR_ne0 (A := A) (L := L) (C := C) (D := D) (fu := 3000) (e := e) hC hD)
  have hfu := hidden (fun (ar : List (List Int)) (cx out : List Int) (st fu' : Int) => feedR_fuel (A := A) (L := L) (C := C) (D := D) (fu := 3000) (fu' := fu') (ar := ar) (cx := cx) (out := out) (st := st) hC hD)
  obtain ⟨FR, hFR⟩ : ∃ F, feedR A L C D = F := ⟨_, rfl⟩
  obtain ⟨aa, ca, rfl, -⟩ := Rd.shape ra
  obtain ⟨ac, cc, rfl, -⟩ := Rd.shape rc
  obtain ⟨ad, cd, rfl, -⟩ := Rd.shape rd
  obtain ⟨m, hm⟩ : ∃ m, A.length = m := ⟨_, rfl⟩
  obtain ⟨n, hn⟩ : ∃ n, C.length = n := ⟨_, rfl⟩
  obtain ⟨dl, hdl⟩ : ∃ n, D.length = n := ⟨_, rfl⟩
  simp only [hFR, hm, hn, hdl] at hfe hfw hne hfu ⊢
  clear ra rc rd hm hn hdl hA hC hD hFR
  have hE := hidden (Ext.refl w)
  have hmw : IntKind.i64.wrap more = more := IntWalk.i64_in _ (by omega)
  go_enter Tryz.func7, Tryz.ntmps7
  obtain ⟨b, hb⟩ : ∃ p, w.heap.size = p := ⟨_, rfl⟩
  have XN := (Ext.refl w).alloc (.cells #[.slice aa m ca, .int .i64 L, .slice ac n cc] 25)
  have BN := blk_at1 w [.slice aa m ca, .int .i64 L, .slice ac n cc] 25 b hb
  obtain ⟨V0, hV0V⟩ : ∃ V, w.alloc (.cells #[.slice aa m ca, .int .i64 L, .slice ac n cc] 25) = V := ⟨_, rfl⟩
  rw [show (w.alloc (.cells ([.slice aa m ca, .int .i64 L, .slice ac n cc] : List Value).toArray 25)) = V0 from hV0V] at BN
  rw [hV0V] at XN
  replace hE := hidden (hE.out.trans XN)
  have Bb := hidden BN
  clear BN
  clear XN
  replace hV0V := hidden hV0V
  go_upto_region 1 with fail
  rw [hV0V.out]
  clear hV0V hb
  have cb0 := Bb.out.cell 0 _ rfl
  have cb1 := Bb.out.cell 1 _ rfl
  have cb2 := Bb.out.cell 2 _ rfl
  go_wp2_with fail
  refine (hfw.out V0 hE.out).mono ?_
  rintro x w1 ⟨⟨few, rfl, -⟩, hX⟩
  clear cb0 cb1 cb2
  replace Bb := hidden (Bb.out.ext hX)
  replace hE := hidden (hE.out.trans hX)
  clear hX hfw
  cases few with
  | false =>
    go_wp2_with fail
    refine (haw.out _).mono ?_
    rintro x wz ⟨rfl, hX⟩
    go_wp2_with fail
    go_ret
    exact ⟨rfl, hE.out.trans hX⟩
  | true =>
    by_cases hd : 20 < dl
    · have hd' : decide ((20 : Int) < (dl : Int)) = true := by simp; omega
      go_wp2_with fail
      refine (haw.out _).mono ?_
      rintro x wz ⟨rfl, hX⟩
      go_wp2_with fail
      go_ret
      exact ⟨rfl, hE.out.trans hX⟩
    · have hd' : decide ((20 : Int) < (dl : Int)) = false := by simp; omega
      have cb0 := Bb.out.cell 0 _ rfl
      have cb1 := Bb.out.cell 1 _ rfl
      have cb2 := Bb.out.cell 2 _ rfl
      have f1 := hidden (hfe.out 3000 (by decide) (by decide) w1 hE.out)
      cases hR : FR 3000 with
      | error e =>
        have he := hne.out e hR
        rw [hR] at f1
        replace f1 := hidden (cal_err f1.out)
        have he' : (e != 0) = true := by simpa using he
        replace he := hidden he
        go_wp2_with fail
        refine f1.out.mono ?_
        rintro x w2 ⟨rfl, hX⟩
        replace hE := hidden (hE.out.trans (hX.trans ((Ext.refl w2).alloc (.cells #[.slice none 0 0, .slice none 0 0, .slice none 0 0, .int .i64 0] 48))))
        clear f1 hX
        go_wp2_with fail
        refine (haw.out _).mono ?_
        rintro x wz ⟨rfl, hX⟩
        go_wp2_with fail
        go_ret
        exact ⟨rfl, hE.out.trans hX⟩
      | ok r =>
        obtain ⟨ar, cx, out, st⟩ := r
        have k1 := hfu.out ar cx out st st hR
        have k2 := hfu.out ar cx out st (st + more) hR
        have k3 := hfu.out ar cx out st (st - 1) hR
        have kk := hfu.out ar cx out st 0 hR (by decide) (by decide)
        have st0 := kk.1
        have st1 := kk.2.1
        have hob := hidden kk.2.2.1
        have r1 := hidden ((k1 st0 (by omega)).2.2.2.1 (Int.le_refl _))
        have r2 := hidden ((k2 (by omega) (by omega)).2.2.2.1 (by omega))
        have r3 := hidden (fun (h : 1 ≤ st) => (k3 (by omega) (by omega)).2.2.2.2 (by omega))
        rw [hR] at f1
        replace f1 := hidden (cal_ok f1.out)
        clear k1 k2 k3 kk hR hfu hne
        go_wp2_with fail
        refine (f1.out).mono ?_
        rintro x w2 ⟨vpa, vpc, vpo, rfl, hMp, hOp, hX⟩
        clear cb0 cb1 cb2
        obtain ⟨ap1, cp1, ap2, cp2, rfl, rfl⟩ := hMp.shape _ _ rfl rfl
        obtain ⟨ap3, cp3, rfl, -⟩ := Rd.shape hOp
        replace Bb := hidden (Bb.out.ext hX)
        replace hE := hidden (hE.out.trans hX)
        replace hMp := hidden hMp
        replace hOp := hidden hOp
        clear hX f1
        obtain ⟨p, hp⟩ : ∃ p, w2.heap.size = p := ⟨_, rfl⟩
        have XN := (Ext.refl w2).alloc (.cells #[.slice ap1 ar.length cp1, .slice ap2 cx.length cp2, .slice ap3 out.length cp3, .int .i64 st] 48)
        have BN := blk_at1 w2 [.slice ap1 ar.length cp1, .slice ap2 cx.length cp2, .slice ap3 out.length cp3, .int .i64 st] 48 p hp
        obtain ⟨V2, hV2V⟩ : ∃ V, w2.alloc (.cells #[.slice ap1 ar.length cp1, .slice ap2 cx.length cp2, .slice ap3 out.length cp3, .int .i64 st] 48) = V := ⟨_, rfl⟩
        rw [show (w2.alloc (.cells ([.slice ap1 ar.length cp1, .slice ap2 cx.length cp2, .slice ap3 out.length cp3, .int .i64 st] : List Value).toArray 48)) = V2 from hV2V] at BN
        rw [hV2V] at XN
        replace Bb := hidden (Bb.out.ext XN)
        replace hMp := hidden (hMp.out.ext XN)
        replace hOp := hidden (Rd.ext hOp.out XN)
        replace hE := hidden (hE.out.trans XN)
        have Bp := hidden BN
        clear BN
        clear XN
        replace hV2V := hidden hV2V
        go_upto_region 4 with fail
        rw [hV2V.out]
        clear hV2V hp
        go_upto_region 6 with fail
        have cb0 := Bb.out.cell 0 _ rfl
        have cb1 := Bb.out.cell 1 _ rfl
        have cb2 := Bb.out.cell 2 _ rfl
        have cp0 := Bp.out.cell 0 _ rfl
        have cp1 := Bp.out.cell 1 _ rfl
        have cp2 := Bp.out.cell 2 _ rfl
        have cp3 := Bp.out.cell 3 _ rfl
        have f2 := hidden (hfe.out st (by omega) (by omega) V2 hE.out)
        rw [r1.out] at f2
        replace f2 := hidden (cal_ok f2.out)
        go_wp2_with fail
        refine (f2.out).mono ?_
        rintro x w3 ⟨vqa, vqc, vqo, rfl, hMq, hOq, hX⟩
        clear cb0 cb1 cb2 cp0 cp1 cp2 cp3
        obtain ⟨aq1, cq1, aq2, cq2, rfl, rfl⟩ := hMq.shape _ _ rfl rfl
        obtain ⟨aq3, cq3, rfl, -⟩ := Rd.shape hOq
        replace Bb := hidden (Bb.out.ext hX)
        replace Bp := hidden (Bp.out.ext hX)
        replace hMp := hidden (hMp.out.ext hX)
        replace hOp := hidden (Rd.ext hOp.out hX)
        replace hE := hidden (hE.out.trans hX)
        replace hMq := hidden hMq
        replace hOq := hidden hOq
        clear hX f2
        obtain ⟨q, hq⟩ : ∃ p, w3.heap.size = p := ⟨_, rfl⟩
        have XN := (Ext.refl w3).alloc (.cells #[.slice aq1 ar.length cq1, .slice aq2 cx.length cq2, .slice aq3 out.length cq3, .int .i64 st] 48)
        have BN := blk_at1 w3 [.slice aq1 ar.length cq1, .slice aq2 cx.length cq2, .slice aq3 out.length cq3, .int .i64 st] 48 q hq
        obtain ⟨V3, hV3V⟩ : ∃ V, w3.alloc (.cells #[.slice aq1 ar.length cq1, .slice aq2 cx.length cq2, .slice aq3 out.length cq3, .int .i64 st] 48) = V := ⟨_, rfl⟩
        rw [show (w3.alloc (.cells ([.slice aq1 ar.length cq1, .slice aq2 cx.length cq2, .slice aq3 out.length cq3, .int .i64 st] : List Value).toArray 48)) = V3 from hV3V] at BN
        rw [hV3V] at XN
        replace Bb := hidden (Bb.out.ext XN)
        replace Bp := hidden (Bp.out.ext XN)
        replace hMp := hidden (hMp.out.ext XN)
        replace hOp := hidden (Rd.ext hOp.out XN)
        replace hMq := hidden (hMq.out.ext XN)
        replace hOq := hidden (Rd.ext hOq.out XN)
        replace hE := hidden (hE.out.trans XN)
        have Bq := hidden BN
        clear BN
        clear XN
        replace hV3V := hidden hV3V
        go_upto_region 7 with fail
        rw [hV3V.out]
        clear hV3V hq
        have cb0 := Bb.out.cell 0 _ rfl
        have cb1 := Bb.out.cell 1 _ rfl
        have cb2 := Bb.out.cell 2 _ rfl
        have cp0 := Bp.out.cell 0 _ rfl
        have cp1 := Bp.out.cell 1 _ rfl
        have cp2 := Bp.out.cell 2 _ rfl
        have cp3 := Bp.out.cell 3 _ rfl
        have hsw : IntKind.i64.wrap (st + more) = st + more := IntWalk.i64_in _ (by omega)
        have f3 := hidden (hfe.out (st + more) (by omega) (by omega) V3 hE.out)
        rw [r2.out] at f3
        replace f3 := hidden (cal_ok f3.out)
        go_wp2_with fail
        refine (f3.out).mono ?_
        rintro x w4 ⟨vra, vrc, vro, rfl, hMr, hOr, hX⟩
        clear cb0 cb1 cb2 cp0 cp1 cp2 cp3
        obtain ⟨ar1, cr1, ar2, cr2, rfl, rfl⟩ := hMr.shape _ _ rfl rfl
        obtain ⟨ar3, cr3, rfl, -⟩ := Rd.shape hOr
        replace Bb := hidden (Bb.out.ext hX)
        replace Bp := hidden (Bp.out.ext hX)
        replace Bq := hidden (Bq.out.ext hX)
        replace hMp := hidden (hMp.out.ext hX)
        replace hOp := hidden (Rd.ext hOp.out hX)
        replace hMq := hidden (hMq.out.ext hX)
        replace hOq := hidden (Rd.ext hOq.out hX)
        replace hE := hidden (hE.out.trans hX)
        replace hMr := hidden hMr
        replace hOr := hidden hOr
        clear hX f3
        obtain ⟨r, hr⟩ : ∃ p, w4.heap.size = p := ⟨_, rfl⟩
        have XN := (Ext.refl w4).alloc (.cells #[.slice ar1 ar.length cr1, .slice ar2 cx.length cr2, .slice ar3 out.length cr3, .int .i64 st] 48)
        have BN := blk_at1 w4 [.slice ar1 ar.length cr1, .slice ar2 cx.length cr2, .slice ar3 out.length cr3, .int .i64 st] 48 r hr
        obtain ⟨V4, hV4V⟩ : ∃ V, w4.alloc (.cells #[.slice ar1 ar.length cr1, .slice ar2 cx.length cr2, .slice ar3 out.length cr3, .int .i64 st] 48) = V := ⟨_, rfl⟩
        rw [show (w4.alloc (.cells ([.slice ar1 ar.length cr1, .slice ar2 cx.length cr2, .slice ar3 out.length cr3, .int .i64 st] : List Value).toArray 48)) = V4 from hV4V] at BN
        rw [hV4V] at XN
        replace Bb := hidden (Bb.out.ext XN)
        replace Bp := hidden (Bp.out.ext XN)
        replace Bq := hidden (Bq.out.ext XN)
        replace hMp := hidden (hMp.out.ext XN)
        replace hOp := hidden (Rd.ext hOp.out XN)
        replace hMq := hidden (hMq.out.ext XN)
        replace hOq := hidden (Rd.ext hOq.out XN)
        replace hMr := hidden (hMr.out.ext XN)
        replace hOr := hidden (Rd.ext hOr.out XN)
        replace hE := hidden (hE.out.trans XN)
        have Br := hidden BN
        clear BN
        clear XN
        replace hV4V := hidden hV4V
        go_upto_region 8 with fail
        rw [hV4V.out]
        clear hV4V hr
        have cp0 := Bp.out.cell 0 _ rfl
        have cp1 := Bp.out.cell 1 _ rfl
        have cp2 := Bp.out.cell 2 _ rfl
        have cp3 := Bp.out.cell 3 _ rfl
        have cq0 := Bq.out.cell 0 _ rfl
        have cq1 := Bq.out.cell 1 _ rfl
        have cq2 := Bq.out.cell 2 _ rfl
        have cq3 := Bq.out.cell 3 _ rfl
        have hs := hidden (same22_any _ _ _ _ _ _ ar cx out st V4 hMp.out hMq.out hOp.out hOq.out hob.out)
        go_wp2_with fail
        refine (hs.out).mono ?_
        rintro x w5 ⟨rfl, hX⟩
        clear cp0 cp1 cp2 cp3 cq0 cq1 cq2 cq3
        replace Bb := hidden (Bb.out.ext hX)
        replace Bp := hidden (Bp.out.ext hX)
        replace Bq := hidden (Bq.out.ext hX)
        replace Br := hidden (Br.out.ext hX)
        replace hMp := hidden (hMp.out.ext hX)
        replace hOp := hidden (Rd.ext hOp.out hX)
        replace hMq := hidden (hMq.out.ext hX)
        replace hOq := hidden (Rd.ext hOq.out hX)
        replace hMr := hidden (hMr.out.ext hX)
        replace hOr := hidden (Rd.ext hOr.out hX)
        replace hE := hidden (hE.out.trans hX)
        clear hX hs
        have cp0 := Bp.out.cell 0 _ rfl
        have cp1 := Bp.out.cell 1 _ rfl
        have cp2 := Bp.out.cell 2 _ rfl
        have cp3 := Bp.out.cell 3 _ rfl
        have cr0 := Br.out.cell 0 _ rfl
        have cr1 := Br.out.cell 1 _ rfl
        have cr2 := Br.out.cell 2 _ rfl
        have cr3 := Br.out.cell 3 _ rfl
        have hs := hidden (same22_any _ _ _ _ _ _ ar cx out st w5 hMp.out hMr.out hOp.out hOr.out hob.out)
        go_wp2_with fail
        refine (hs.out).mono ?_
        rintro x w6 ⟨rfl, hX⟩
        clear cp0 cp1 cp2 cp3 cr0 cr1 cr2 cr3
        replace Bb := hidden (Bb.out.ext hX)
        replace Bp := hidden (Bp.out.ext hX)
        replace Bq := hidden (Bq.out.ext hX)
        replace Br := hidden (Br.out.ext hX)
        replace hMp := hidden (hMp.out.ext hX)
        replace hOp := hidden (Rd.ext hOp.out hX)
        replace hMq := hidden (hMq.out.ext hX)
        replace hOq := hidden (Rd.ext hOq.out hX)
        replace hMr := hidden (hMr.out.ext hX)
        replace hOr := hidden (Rd.ext hOr.out hX)
        replace hE := hidden (hE.out.trans hX)
        clear hX hs
        go_upto_region 10 with fail
        have cb0 := Bb.out.cell 0 _ rfl
        have cb1 := Bb.out.cell 1 _ rfl
        have cb2 := Bb.out.cell 2 _ rfl
        have cp0 := Bp.out.cell 0 _ rfl
        have cp1 := Bp.out.cell 1 _ rfl
        have cp2 := Bp.out.cell 2 _ rfl
        have cp3 := Bp.out.cell 3 _ rfl
        by_cases hz : st = 0
        · have hz' : (st == 0) = true := by simpa using hz
          replace hz := hidden hz
          go_wp2_with fail
          refine (haw.out _).mono ?_
          rintro x wz ⟨rfl, hX⟩
          go_wp2_with fail
          go_ret
          exact ⟨rfl, hE.out.trans hX⟩
        · have hz' : (st == 0) = false := by simpa using hz
          have hz2 : 1 ≤ st := by omega
          have hsw2 : IntKind.i64.wrap (st - 1) = st - 1 := IntWalk.i64_in _ (by omega)
          have f4 := hidden (hfe.out (st - 1) (by omega) (by omega) w6 hE.out)
          rw [r3.out hz2] at f4
          replace f4 := hidden (cal_err f4.out)
          replace hz := hidden hz
          go_wp2_with fail
          refine f4.out.mono ?_
          rintro x w7 ⟨rfl, hX⟩
          replace hE := hidden (hE.out.trans (hX.trans ((Ext.refl w7).alloc (.cells #[.slice none 0 0, .slice none 0 0, .slice none 0 0, .int .i64 0] 48))))
          clear f4 hX
          go_wp2_with fail
          refine (haw.out _).mono ?_
          rintro x wz ⟨rfl, hX⟩
          go_wp2_with fail
          go_ret
          exact ⟨rfl, hE.out.trans hX⟩
end Go.Proofs.YtgjjklajipekdaaGreat
