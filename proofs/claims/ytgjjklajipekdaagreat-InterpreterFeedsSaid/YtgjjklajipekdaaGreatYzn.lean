
import Derived.Test.YtgjjklajipekdaaGreatYzm
import Derived.Lib.SlBytesRow
import Derived.Lib.BufferRead
namespace Go.Proofs.YtgjjklajipekdaaGreat
set_option maxHeartbeats 16000000
set_option maxRecDepth 100000
open Go.RowKit
set_option linter.unusedVariables false
set_option linter.unusedSimpArgs false
attribute [local go_sem ↓] Go.wp_at_zero Go.wp_at_succ
theorem samenum_eq (va vb : Value) (l : List Int) (w : World) (ha : R32 w va l) (hb : R32 w vb l) :
  Calls Tryz.prog 33 #[va, vb] w fun x w' => x = .returned (.bool true) ∧ Ext w w' := by
 have := samenum_any va vb l l w ha hb
 simpa using this
theorem samemem_any (va vc va' vc' : Value) (ar : List (List Int)) (cx : List Int) (w : World) (h : MemR w va vc ar cx) (h' : MemR w va' vc' ar cx) :
  Calls Tryz.prog 15 #[.agg #[va, vc], .agg #[va', vc']] w fun x w' => x = .returned (.bool true) ∧ Ext w w' := by
 obtain ⟨b, hb⟩ := ex w.heap.size
 obtain ⟨b1, hb1⟩ := ex (b + 1)
 obtain ⟨rl, hrl⟩ := ex ar.length
 obtain ⟨W1, hW1, X1, P1⟩ := alx w #[va, vc] [va, vc] 29 b hb
 have s1 : W1.heap.size = b1 := by rw [← hW1, ← hb1, ← hb]; exact Array.size_push ..
 obtain ⟨W4, hW4, X2, P2⟩ := alx W1 #[va', vc'] [va', vc'] 29 b1 s1
 have hW : Hid (((w.alloc (.cells #[va, vc] 29)).alloc (.cells #[va', vc'] 29)) = W4) := hidden (by rw [hW1, hW4])
 replace P1 := P1.ext X2
 have XW := hidden (X1.trans X2)
 obtain ⟨vs, m1, m2, m3⟩ := h.ext XW.out
 obtain ⟨vs', n1, n2, n3⟩ := h'.ext XW.out
 rw [hrl] at m1 n1
 obtain ⟨am, cm, rfl, -⟩ := Rd.shape m1
 obtain ⟨an, cn, rfl, -⟩ := Rd.shape n1
 obtain ⟨ax, cxx, rfl, -⟩ := Rd.shape m3
 obtain ⟨ay, cyy, rfl, -⟩ := Rd.shape n3
 have hcx := hidden (samenum_eq _ _ cx W4 m3 n3)
 have m1I := hidden m1
 have m2I := hidden m2
 have n1I := hidden n1
 have n2I := hidden n2
 obtain ⟨p0, p1⟩ := P1.c2
 obtain ⟨q0, q1⟩ := P2.c2
 have P1I := hidden P1
 have P2I := hidden P2
 have hrlI := hidden hrl
 obtain ⟨xl, hxl⟩ := ex cx.length
 rw [hxl] at p1 q1 hcx P1I P2I hW
 rw [hxl]
 clear X1 X2 P1 P2 hW1 hW4 s1 m1 m2 m3 n1 n2 n3 h h' hrl hxl
 clear W1
 go_enter Tryz.func15, Tryz.ntmps15
 go_upto_region 1 with fail
 rw [hW.out]
 go_wp2_with fail
 refine hcx.out.mono ?_
 rintro x w1 ⟨rfl, hX⟩
 have hXI := hidden hX
 clear p0 p1 q0 q1 hcx hX hW
 go_wp2_with fail
 go_loopw [5] (fun ix wr => ∃ k : Nat, k ≤ rl ∧ ix = .int .i64 (k : Int) ∧ Hid (Ext W4 wr)) (fun ix _ => (rl - intOf ix).toNat)
 case atStart => exact ⟨0, by omega, rfl, hXI⟩
 case round =>
  obtain ⟨k, hk, rfl, hE⟩ := hrel
  obtain ⟨W1, hWW⟩ : ∃ Z, Z = wr := ⟨_, rfl⟩
  subst hWW
  have d0 := (P1I.out.ext hE.out).cell 0 _ rfl
  have d1 := (P2I.out.ext hE.out).cell 0 _ rfl
  by_cases hlt : k < rl
  ·have hlt' : (k : Int) < (rl : Int) := by omega
   have hkw : IntKind.i64.wrap ((k : Int) + 1) = (k : Int) + 1 := by
    obtain ⟨a, cap, e, e1, e2, -⟩ := Rd.shape m1I.out
    exact IntWalk.i64_in _ (by omega)
   obtain ⟨mb, mo, rfl, -, -⟩ := Rd.cells (cs := vs) (w := W4) (sz := 1) m1I.out (show 0 < rl by omega)
   obtain ⟨nb, no, rfl, -, -⟩ := Rd.cells (cs := vs') (w := W4) (sz := 1) n1I.out (show 0 < rl by omega)
   have l1 : vs.length = rl := by have := m1I.out.1; omega
   have l2 : vs'.length = rl := by have := n1I.out.1; omega
   obtain ⟨v, hv⟩ : ∃ v, vs[k]? = some v := ⟨_, List.getElem?_eq_getElem (by omega)⟩
   obtain ⟨v', hv'⟩ : ∃ v, vs'[k]? = some v := ⟨_, List.getElem?_eq_getElem (by omega)⟩
   obtain ⟨a, ha⟩ : ∃ a, ar[k]? = some a := ⟨_, List.getElem?_eq_getElem (by rw [hrlI.out]; omega)⟩
   have e1 := m2I.out k v a hv ha
   have e2 := n2I.out k v' a hv' ha
   obtain ⟨ae, ce, rfl, -⟩ := Rd.shape e1
   obtain ⟨ag, cg, rfl, -⟩ := Rd.shape e2
   have d2 := hE.out.cell (rd_at m1I.out k _ hv)
   have d3 := hE.out.cell (rd_at n1I.out k _ hv')
   have hcon := hidden (fun (W : World) (h : Ext W1 W) => samenum_eq _ _ a W (e1.ext (hE.out.trans h)) (e2.ext (hE.out.trans h)))
   obtain ⟨s, hs⟩ := ex a.length
   rw [hs] at d2 d3 hcon
   clear hv hv' ha e1 e2 l1 l2 hs
   go_upto_region 6 with fail
   refine wp_region_D (S := fun w' => w'.cell? ⟨b, 0, none⟩ = some (.slice (some ⟨mb, mo, none⟩) rl cm) ∧ w'.cell? ⟨b1, 0, none⟩ = some (.slice (some ⟨nb, no, none⟩) rl cn) ∧ w'.cell? ⟨mb, mo + k, none⟩ = some (.slice ae s ce) ∧ w'.cell? ⟨nb, no + k, none⟩ = some (.slice ag s cg)) (D := []) (by kernel_rfl) ⟨d0, d1, d2, d3⟩ (fun HS => ?_)
   refine tk 0 [1, 3, 4, 10, 11] (.pointer (some ⟨b, 0, none⟩)) HS ?_; try simp only [sx]
   refine tk 1 [3, 4, 10, 11] (.slice (some ⟨mb, mo, none⟩) rl cm) HS ?_; try simp only [sx]
   refine tk 2 [3, 4, 10, 11] (.int .i64 (k : Int)) HS ?_; try simp only [sx]
   refine tk 3 [4, 10, 11] (.pointer (some ⟨mb, mo + k, none⟩)) HS ?_; try simp only [sx]
   refine tk 4 [10, 11] (.slice ae s ce) HS ?_; try simp only [sx]
   refine tk 5 [6, 8, 9, 10, 11] (.pointer (some ⟨b1, 0, none⟩)) HS ?_; try simp only [sx]
   refine tk 6 [8, 9, 10, 11] (.slice (some ⟨nb, no, none⟩) rl cn) HS ?_; try simp only [sx]
   refine tk 7 [8, 9, 10, 11] (.int .i64 (k : Int)) HS ?_; try simp only [sx]
   refine tk 8 [9, 10, 11] (.pointer (some ⟨nb, no + k, none⟩)) HS ?_; try simp only [sx]
   refine tk 9 [10, 11] (.slice ag s cg) HS ?_; try simp only [sx]
   refine callVD 10 33 #[.slice ae s ce, .slice ag s cg] rfl rfl (by kernel_rfl) (by rfl) (by go_simp) (hcon.out W1.drew (Ext.refl W1).drew) ?_
   rintro x w2 ⟨rfl, hX2⟩
   have HS2 := hidden (And.intro (hX2.cell HS.1) (And.intro (hX2.cell HS.2.1) (And.intro (hX2.cell HS.2.2.1) (hX2.cell HS.2.2.2))))
   refine Or.inl ⟨_, rfl, fun _ => HS2.out, ?_⟩
   try simp only [Act.put, sx]
   refine tk 11 [] (.bool false) HS2.out ?_; try simp only [sx]
   refine wpAnyD_done (by kernel_rfl) ?_ _
   show _
   have hE2 := hidden (hE.out.trans ((Ext.refl W1).drew.trans hX2))
   clear HS2 hX2 HS
   go_wp2_with fail
   go_roundw
   case rel => exact ⟨k + 1, by omega, by go_num, hE2⟩
   case measure => simp [intOf]; omega
  ·have hlt' : ¬ (k : Int) < (rl : Int) := by omega
   go_wp2_with fail
   go_ret
   exact ⟨rfl, XW.out.trans hE.out⟩
def strL (l : List Int) : ByteArray := ⟨(l.map fun x => UInt8.ofNat x.toNat).toArray⟩
theorem strL_size (l : List Int) : (strL l).size = l.length := by unfold strL; simp [ByteArray.size]
theorem conv_any (v : Value) (l : List Int) (w : World) (h : Rd w 1 v l.length (l.map (Value.int .u8))) (hb : ∀ x ∈ l, 0 ≤ x ∧ x ≤ 255) : (convert 46 9 v).run Tryz.prog w = .ok (.string (strL l)) w := by
 obtain ⟨a, cap, rfl, h1, h2, h3⟩ := Rd.shape h
 by_cases h0 : l.length = 0
 ·obtain rfl : l = [] := List.eq_nil_of_length_eq_zero h0
  cases a with
  | none => exact Lib.run_convert_nil_bytes w _ _ 5 cap Tryz.underlying46 Tryz.underlying5 Tryz.underlying9
  | some ad =>
   rw [run_convert_bytes_string w 46 9 5 (some ad) _ cap Tryz.underlying46 Tryz.underlying5 Tryz.underlying9]
   simp [Conv.bytesToString, strL]
   try rfl
 ·obtain ⟨b, o, rfl, -, -⟩ := Rd.cells h (by omega)
  have := Lib.run_convert_whole (P := Tryz.prog) w 46 5 9 Tryz.underlying46 Tryz.underlying5 Tryz.underlying9 b o (strL l) (fun i hi => by
   have hi' : i < l.length := by rw [strL_size] at hi; exact hi
   have hx := hb l[i] (List.getElem_mem hi')
   rw [rd_at h i (.int .u8 l[i]) (by rw [List.getElem?_map, List.getElem?_eq_getElem hi']; rfl)]
   have e : (strL l)[i] = UInt8.ofNat l[i].toNat := by
    show (strL l).data[i]'hi = _
    simp [strL]
   rw [e]
   simp
   omega) cap
  rw [strL_size] at this
  exact this
theorem sameres_any (va vc vo va' vc' vo' : Value) (ar : List (List Int)) (cx out : List Int) (st : Int) (w : World) (h : MemR w va vc ar cx) (h' : MemR w va' vc' ar cx) (ho : Rd w 1 vo out.length (out.map (Value.int .u8))) (ho' : Rd w 1 vo' out.length (out.map (Value.int .u8))) (hb : ∀ x ∈ out, 0 ≤ x ∧ x ≤ 255) :
  Calls Tryz.prog 43 #[.agg #[va, vc, vo, .int .i64 st], .agg #[va', vc', vo', .int .i64 st]] w fun x w' => x = .returned (.bool true) ∧ Ext w w' := by
 obtain ⟨b, hb0⟩ := ex w.heap.size
 obtain ⟨b1, hb1⟩ := ex (b + 1)
 obtain ⟨W1, hW1, X1, P1⟩ := alx w #[va, vc, vo, .int .i64 st] [va, vc, vo, .int .i64 st] 48 b hb0
 have s1 : W1.heap.size = b1 := by rw [← hW1, ← hb1, ← hb0]; exact Array.size_push ..
 obtain ⟨W4, hW4, X2, P2⟩ := alx W1 #[va', vc', vo', .int .i64 st] [va', vc', vo', .int .i64 st] 48 b1 s1
 have hW : Hid (((w.alloc (.cells #[va, vc, vo, .int .i64 st] 48)).alloc (.cells #[va', vc', vo', .int .i64 st] 48)) = W4) := hidden (by rw [hW1, hW4])
 replace P1 := P1.ext X2
 have XW := hidden (X1.trans X2)
 have r1 := conv_any vo out W4 (Rd.ext ho XW.out) hb
 have r2 := conv_any vo' out W4 (Rd.ext ho' XW.out) hb
 have hc := hidden (samemem_any va vc va' vc' ar cx W4 (h.ext XW.out) (h'.ext XW.out))
 obtain ⟨p0, p1, p2, p3⟩ := P1.c4
 obtain ⟨q0, q1, q2, q3⟩ := P2.c4
 clear X1 X2 P1 P2 hW1 hW4 s1 h h' ho ho'
 clear W1
 go_enter Tryz.func43, Tryz.ntmps43
 go_upto_region 1 with fail
 rw [hW.out]
 clear hW
 go_wp2_with fail
 refine hc.out.mono ?_
 rintro x w1 ⟨rfl, hX⟩
 have hXI := hidden hX
 clear hc hX p0 p1 p2 p3 q0 q1 q2 q3
 go_wp2_with fail
 go_ret
 exact ⟨rfl, XW.out.trans hXI.out⟩
theorem same22_any (va vc vo va' vc' vo' : Value) (ar : List (List Int)) (cx out : List Int) (st : Int) (w : World) (h : MemR w va vc ar cx) (h' : MemR w va' vc' ar cx) (ho : Rd w 1 vo out.length (out.map (Value.int .u8))) (ho' : Rd w 1 vo' out.length (out.map (Value.int .u8))) (hb : ∀ x ∈ out, 0 ≤ x ∧ x ≤ 255) :
  Calls Tryz.prog 21 #[.agg #[va, vc, vo, .int .i64 st], .agg #[va', vc', vo', .int .i64 st]] w fun x w' => x = .returned (.bool true) ∧ Ext w w' := by
 obtain ⟨b, hb0⟩ := ex w.heap.size
 obtain ⟨b1, hb1⟩ := ex (b + 1)
 obtain ⟨W1, hW1, X1, P1⟩ := alx w #[va, vc, vo, .int .i64 st] [va, vc, vo, .int .i64 st] 48 b hb0
 have s1 : W1.heap.size = b1 := by rw [← hW1, ← hb1, ← hb0]; exact Array.size_push ..
 obtain ⟨W4, hW4, X2, P2⟩ := alx W1 #[va', vc', vo', .int .i64 st] [va', vc', vo', .int .i64 st] 48 b1 s1
 have hW : Hid (((w.alloc (.cells #[va, vc, vo, .int .i64 st] 48)).alloc (.cells #[va', vc', vo', .int .i64 st] 48)) = W4) := hidden (by rw [hW1, hW4])
 replace P1 := P1.ext X2
 have XW := hidden (X1.trans X2)
 have hc := hidden (sameres_any va vc vo va' vc' vo' ar cx out st W4 (h.ext XW.out) (h'.ext XW.out) (Rd.ext ho XW.out) (Rd.ext ho' XW.out) hb)
 obtain ⟨p0, p1, p2, p3⟩ := P1.c4
 obtain ⟨q0, q1, q2, q3⟩ := P2.c4
 clear X1 X2 P1 P2 hW1 hW4 s1 h h' ho ho'
 clear W1
 go_enter Tryz.func21, Tryz.ntmps21
 go_upto_region 1 with fail
 rw [hW.out]
 clear hW
 go_wp2_with fail
 refine hc.out.mono ?_
 rintro x w1 ⟨rfl, hX⟩
 have hXI := hidden hX
 clear hc hX p0 p1 p2 p3 q0 q1 q2 q3
 go_wp2_with fail
 go_ret
 exact ⟨rfl, XW.out.trans hXI.out⟩
end Go.Proofs.YtgjjklajipekdaaGreat
