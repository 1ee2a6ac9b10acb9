
import Derived.Test.YtgjjklajipekdaaGreatVe
import Derived.Test.YtgjjklajipekdaaGreatShelf
import Derived.Laws.CopyOwn
import Derived.Laws.OwnMore
import Derived.Deep.RegionLaw
import Derived.Test.YtgjjklajipekdaaGreatR
import Derived.StillTailTactics
import Derived.Test.YtgjjklajipekdaaGreatWc
import Derived.Test.YtgjjklajipekdaaGreatVg
import Derived.Deep.QuietTactic
import Derived.BigQuiet
namespace Go.Proofs.YtgjjklajipekdaaGreat
set_option maxHeartbeats 16000000
set_option maxRecDepth 100000
open Go.RowKit
set_option linter.unusedVariables false
set_option linter.unusedSimpArgs false
attribute [local go_sem ↓] Go.wp_at_zero Go.wp_at_succ
theorem made_int (n : Nat) : (madeCells (Value.int .i64 0).cells n).toList = (List.replicate n (0 : Int)).map (Value.int .i64) := by
 unfold madeCells
 simp only [Array.toList_map, Array.toList_range]
 rw [List.map_replicate]
 apply List.ext_getElem
 ·simp
 ·intro i h1 h2
  simp [Value.cells, Nat.mod_one]
def repR (n k : Nat) : List Value := (List.replicate k (-1 : Int)).map (Value.int .i64) ++ (List.replicate (n - k) (0 : Int)).map (Value.int .i64)
theorem repR_len {n k : Nat} (h : k ≤ n) : (repR n k).length = n := by simp [repR]; omega
theorem repR_splice (n k m : Nat) (h : k + m ≤ n) : splice (repR n k) k ((List.replicate m (-1 : Int)).map (Value.int .i64)) = repR n (k + m) := by
 unfold splice repR
 simp only [List.map_replicate]
 rw [List.take_append_of_le_length (by simp), List.take_of_length_le (by simp), ← List.append_assoc, List.replicate_append_replicate]
 congr 1
 rw [List.drop_append, List.drop_of_length_le (by simp)]
 simp
 omega
theorem oneI (m : Nat) : ∀ v ∈ (List.replicate m (-1 : Int)).map (Value.int .i64), v.oneCell' = true := by
 intro v hv
 rw [List.map_replicate] at hv
 rw [(List.mem_replicate.1 hv).2]
 rfl
theorem repR_cell {w : World} {g n k : Nat} (h : w.heap[g]? = some (.cells (repR n k).toArray 3 (0, 0))) (j : Nat) (hj : j < k) : w.cell? ⟨g, j, none⟩ = some (.int .i64 (-1)) := by
 have : (repR n k)[j]? = some (.int .i64 (-1)) := by
  unfold repR
  rw [List.getElem?_append_left (by simpa using hj), List.getElem?_map, List.getElem?_replicate, if_pos hj]
  rfl
 have hb : Blk w g 3 (repR n k) := h
 exact hb.cell j _ this
theorem rep_any (b c n : Nat) (w : World) (hc : w.cell? ⟨b, 0, none⟩ = some (.int .i64 (-1))) (hn : n ≤ 1024) :
  Calls Tryz.prog 90 #[.slice (some ⟨b, 0, none⟩) 1 c, .int .i64 (n : Int)] w fun x w' => ∃ v, x = .returned v ∧ OwnI w' w.heap.size v (List.replicate n (-1)) ∧ Ext w w' := by
 obtain ⟨i1, hi, hz0, hz1, hz2⟩ := info_parts intinfo
 have hsz : (Tryz.prog.info? 3).map (·.size) = some 1 := by rw [hi]; exact congrArg some hz1
 have hmk1 : ∀ W, (Instr.makeSlice 78 (.int .i64 (n : Int)) (.int .i64 (n : Int))).run Tryz.prog W = .ok (.slice (some ⟨W.heap.size, 0, none⟩) n n) (W.alloc (.cells (madeCells (Value.int .i64 0).cells n) 3)) := fun W => by
  have := run_make (P := Tryz.prog) W 78 3 i1 (.int .i64 0) Tryz.underlying78 hi hz0 .i64 .i64 (n : Int) (n : Int) (by omega) (Int.le_refl _) (by rw [hz2]; omega) (by omega)
  rw [hz1, Nat.mul_one, Int.toNat_natCast] at this
  exact this
 have hmul := Go.Proofs.Tryz.bits_Mul 1 n (by omega) (by omega)
 rw [show 1 * n / 18446744073709551616 = 0 by omega, show 1 * n % 18446744073709551616 = n by omega] at hmul
 replace hmul := hidden hmul
 have hm0 : Hid (madeCells (Value.int .i64 0).cells n = (repR n 0).toArray) := by
  show _ = _
  rw [← Array.toArray_toList (xs := madeCells (Value.int .i64 0).cells n), made_int]
  simp [repR]
 have hw1 : IntKind.u64.wrap (n : Int) = n := IntWalk.u64_in _ (by omega)
 have hw2 : IntKind.i64.wrap (n : Int) = n := IntWalk.i64_in _ (by omega)
 have hng : ¬ ((n : Int) < 0) := by omega
 obtain ⟨g, hg⟩ := ex w.heap.size
 replace hg := hidden hg
 replace hi := hidden hi
 go_enter Tryz.func90, Tryz.ntmps90
 go_wp2_with fail
 refine (hmul.out _).mono ?_
 rintro e w1 ⟨rfl, hw⟩
 rw [hw]
 clear hw
 have H0 : ∀ t, (w.alloc (.cells (madeCells #[Value.int .i64 0] n) t)).heap[w.heap.size]? = some (.cells (repR n 0).toArray t (0, 0)) := fun t => by
  have := hm0.out
  rw [← this]
  exact heap_alloc_new w _
 obtain ⟨cs, hcs⟩ : ∃ cs, cs = (List.replicate (Nat.min 1 n) (-1 : Int)).map (Value.int .i64) := ⟨_, rfl⟩
 have hcl : cs.length = Nat.min 1 n := by rw [hcs]; simp
 have hc1 : ∀ v ∈ cs, v.oneCell' = true := by rw [hcs]; exact oneI _
 replace hcs := hidden hcs
 have hpos : ∀ (j : Nat) (v : Value), cs[j]? = some v → (w.alloc (.cells (madeCells #[Value.int .i64 0] n) 3)).cell? ((⟨b, 0, none⟩ : Addr).add j) = some v := fun j v hj => by
  have h1 := (List.getElem?_eq_some_iff.1 hj).1
  rw [hcl] at h1
  have : Nat.min 1 n ≤ 1 := Nat.min_le_left 1 n
  obtain rfl : j = 0 := by omega
  rw [hcs.out, List.getElem?_map, List.getElem?_replicate, if_pos (by omega)] at hj
  cases hj
  exact ((Ext.refl w).alloc _).cell hc
 have hfit : 0 + cs.length ≤ (repR n 0).length := by rw [hcl, repR_len (Nat.zero_le n), Nat.zero_add]; exact Nat.min_le_right 1 n
 have e1 : splice (repR n 0) 0 cs = repR n (Nat.min 1 n) := by
  rw [hcs.out, repR_splice n 0 (Nat.min 1 n) (by rw [Nat.zero_add]; exact Nat.min_le_right 1 n), Nat.zero_add]
 replace e1 := hidden e1
 have hclH := hidden hcl
 have hk0 : 0 < n → Nat.min 1 n = 1 := fun h => Nat.min_eq_left h
 obtain ⟨k0, hkk⟩ := ex (Nat.min 1 n)
 have hk1 : k0 ≤ n := by rw [← hkk]; exact Nat.min_le_right 1 n
 rw [hkk] at hk0 hcl e1
 replace hkk := hidden hkk
 go_upto_region 7 with fail
 go_wp2_with (refine wpList_copy_splice rfl (.tmp 31) (.tmp 32) 78 78 rfl 3 Tryz.underlying78 hsz _ _ _ _ _ _ rfl rfl w.heap.size 0 (repR n 0) 3 (H0 _) cs hclH.out (fun _ => ⟨rfl, _, rfl, hpos⟩) hfit hc1 w.heap.size w ((Ext.refl w).alloc _) (Nat.le_refl _) ?_; intro w2 HG2 hB2)
 have hG : Hid (w2.heap[w.heap.size]? = some (.cells (repR n k0).toArray 3 (0, 0))) := by
  show _ = _
  rw [← e1.out]; exact HG2.out
 have hX : Hid (Below w.heap.size w w2) := hB2
 clear hclH
 clear HG2 hB2 e1 hcs hcl hc1 hpos hfit H0 hkk hm0 hmk1 hmul
 go_loopw [8] (fun i wr => ∃ k : Nat, k ≤ n ∧ (0 < n → 0 < k) ∧ i = .int .i64 (k : Int) ∧ Hid (wr.heap[w.heap.size]? = some (.cells (repR n k).toArray 3 (0, 0))) ∧ Hid (Below w.heap.size w wr)) (fun i _ => (n - intOf i).toNat)
 case atStart => exact ⟨k0, hk1, fun h => by have := hk0 h; omega, by go_num, hG, hX⟩
 case round =>
  obtain ⟨k, hk, hk0, rfl, hG, hX⟩ := hrel
  obtain ⟨W, hWW⟩ : ∃ Z, Z = wr := ⟨_, rfl⟩
  subst hWW
  by_cases hlt : k < n
  ·have hlt' : (k : Int) < (n : Int) := by omega
   have hkp := hk0 (by omega)
   have hu := Tryz.underlying78
   have hel : Tryz.prog.elem 78 = 3 := by unfold Program.elem; rw [hu]
   have ht : Tryz.prog.underlying 78 = some (.slice (Tryz.prog.elem 78)) := by rw [hel]; exact hu
   have hcl : ∀ w1, (Instr.sliceAt 78 (.slice (some ⟨w.heap.size, 0, none⟩) n n) (some (.int .i64 (k : Int))) none none).run Tryz.prog w1 = .ok (.slice (some ⟨w.heap.size, k, none⟩) (n - k) (n - k)) w1 := fun w1 => by
    rw [run_sliceAt_slice w1 _ _ _ _ _ ht, run_slice_l w1 _ _ _ _ ht _ _ (by omega) (by omega), hel, Tryz.sizeOf3]
    simp [sliced, Addr.add, Result.andThen, show n ≠ k by omega, show k ≠ 0 by omega]
   have hch : ∀ w1, (Instr.sliceAt 78 (.slice (some ⟨w.heap.size, 0, none⟩) n n) none (some (.int .i64 (k : Int))) none).run Tryz.prog w1 = .ok (.slice (some ⟨w.heap.size, 0, none⟩) k n) w1 := fun w1 => by
    rw [run_sliceAt_slice w1 _ _ _ _ _ ht, run_slice_h w1 _ _ _ _ ht _ _ (by omega) (by omega), hel, Tryz.sizeOf3]
    simp [sliced, Addr.add, Result.andThen, show n ≠ k by omega, show k ≠ 0 by omega]
   obtain ⟨m, hm⟩ := ex (Nat.min k (n - k))
   have hm1 : m ≤ k := by rw [← hm]; exact Nat.min_le_left _ _
   have hm2 : m ≤ n - k := by rw [← hm]; exact Nat.min_le_right _ _
   have hm3 : 0 < m := by rw [← hm]; exact Nat.lt_min.2 ⟨hkp, by omega⟩
   obtain ⟨cs, hcs⟩ : ∃ cs, cs = (List.replicate m (-1 : Int)).map (Value.int .i64) := ⟨_, rfl⟩
   have hcn : cs.length = Nat.min k (n - k) := by rw [hcs, hm]; simp
   have hcm : cs.length = m := by rw [hcs]; simp
   have hc1 : ∀ v ∈ cs, v.oneCell' = true := by rw [hcs]; exact oneI _
   have hpos : ∀ (j : Nat) (v : Value), cs[j]? = some v → W.drew.cell? ((⟨w.heap.size, 0, none⟩ : Addr).add j) = some v := fun j v hj => by
    have h1 := (List.getElem?_eq_some_iff.1 hj).1
    rw [hcm] at h1
    rw [hcs, List.getElem?_map, List.getElem?_replicate, if_pos h1] at hj
    cases hj
    have := repR_cell hG.out j (by omega)
    unfold Addr.add
    split
    ·next hz => subst hz; exact this
    ·rw [Nat.zero_add]; exact this
   have hfit : k + cs.length ≤ (repR n k).length := by rw [hcm, repR_len hk]; omega
   have hsp : splice (repR n k) k cs = repR n (k + m) := by rw [hcs]; exact repR_splice n k m (by omega)
   have hwk : IntKind.i64.wrap ((k : Int) + (m : Int)) = (k : Int) + (m : Int) := IntWalk.i64_in _ (by omega)
   replace hcn := hidden hcn
   replace hcs := hidden hcs
   replace hsp := hidden hsp
   replace hm := hidden hm
   have hrun := run_copy_row (P := Tryz.prog) W.drew 78 78 3 3 w.heap.size k (n - k) (n - k) ⟨w.heap.size, 0, none⟩ k n (repR n k).toArray 3 cs hu hsz hG.out hcn.out hpos (by simpa using hfit) hc1
   obtain ⟨W4, hW4⟩ := ex (W.drew.setRow w.heap.size ((repR n k).toArray.toList.take k ++ (cs ++ (repR n k).toArray.toList.drop (k + cs.length))).toArray)
   rw [List.append_assoc, hW4, hcm] at hrun
   have hB4 : Hid (Below w.heap.size w W4) := by
    show Below _ _ _
    rw [← hW4]
    exact below_setRow (Ext.drew hX.out) (Nat.le_refl _) _
   have hG4 : Hid (W4.heap[w.heap.size]? = some (.cells (repR n (k + m)).toArray 3 (0, 0))) := by
    show _ = _
    rw [← hW4, ← hsp.out]
    simpa [splice] using setRow_heap W.drew w.heap.size _ _ 3 _ hG.out
   change (Builtin.copy_ #[78, 78] 3 #[.slice (some ⟨w.heap.size, k, none⟩) (n - k) (n - k), .slice (some ⟨w.heap.size, 0, none⟩) k n]).run Tryz.prog W.drew = .ok (.int .i64 (m : Int)) W4 at hrun
   replace hW4 := hidden hW4
   clear hu hel ht hcm hfit hpos hc1
   go_upto_region 9 with fail
   go_region
   go_wp2_with fail
   go_roundw
   case rel =>
    exact ⟨k + m, by omega, by omega, by go_num, hG4, hB4⟩
   case measure => simp [intOf]; omega
  ·obtain rfl : k = n := by omega
   go_wp2_with fail
   go_ret
   refine ⟨_, rfl, ?_, hX.out⟩
   have hB : Blk W w.heap.size 3 (repR k k) := hG.out
   unfold OwnI
   rw [List.length_replicate]
   refine ⟨by simp, Or.inr ⟨w.heap.size, k, (repR k k).toArray, rfl, Nat.le_refl _, hG.out, Nat.le_refl _, by unfold maxLen; omega, ?_⟩⟩
   refine ⟨by simpa using repR_len (Nat.le_refl k), ?_⟩
   rw [Nat.mul_one, List.take_of_length_le (by have := repR_len (Nat.le_refl k); simp at this ⊢; omega)]
   simp [repR]
theorem begin_any (v : Value) (C : List (Int × Int)) (w : World) (h : Code18 w v C) (hl : C.length ≤ 1024) :
  Calls Tryz.prog 65 #[v] w fun x w' => ∃ br vp, x = .returned (.pointer (some ⟨br, 0, none⟩)) ∧ w.heap.size ≤ br ∧ Ext w w' ∧ St w' w.heap.size br v C vp 0 (List.replicate C.length (-1)) none := by
 obtain ⟨n, hn⟩ := ex C.length
 obtain ⟨ad, cap, rfl, hcap, -⟩ := Rd.shape h
 have hoff := fun (hn0 : 0 < C.length) (k : Nat) (hk : (Value.slice ad C.length cap).ownBlock = some k) => Rd.blk_lt h hn0 hk
 rw [hn] at hl hcap hoff ⊢
 have h' := hidden h
 have hd1 := hidden demand_true
 have hrep := fun b c W hc => rep_any b c n W hc hl
 replace hrep := hidden hrep
 replace hn := hidden hn
 replace hoff := hidden hoff
 have hld : decide ((n : Int) ≤ 1024) = true := by simp; omega
 clear h
 go_enter Tryz.func65, Tryz.ntmps65
 go_wp2_with fail
 refine (hd1.out _ _ _).mono ?_
 rintro e w1 ⟨rfl, hw1⟩
 rw [hw1]
 clear hw1
 have B0 := Blk.new w [.int .i64 (-1)] 3
 have c0 := B0.cell 0 _ rfl
 go_wp2_with fail
 refine (hrep.out _ _ _ c0).mono ?_
 rintro e w2 ⟨vp, rfl, hO, hX⟩
 have hX2 := ((Ext.refl w).alloc _).trans hX
 unfold OwnI at hO
 rw [List.length_replicate] at hO
 obtain ⟨va, vpc, rfl, -⟩ := own_shape hO
 go_wp2_with fail
 go_ret
 have B1 := Blk.new w2 [.slice ad n cap, .int .i64 0, .slice va n vpc] 131
 have hs1 : w.heap.size + 1 ≤ w2.heap.size := by have := hX.size; simpa using this
 have hvb : ∀ k, (Value.slice va n vpc).ownBlock = some k → w.heap.size ≤ k ∧ k < w2.heap.size := fun k hk => by
  have := own_lt hO hk
  simp at this
  omega
 refine ⟨w2.heap.size, _, rfl, by omega, hX2.alloc _, B1, ?_, by rw [hn.out]; exact hoff.out, ?_, by rw [List.length_replicate, hn.out], trivial, ?_, ?_⟩
 ·have := h'.out
  rw [hn.out] at this
  exact this.ext (hX2.alloc _)
 ·unfold OwnI
  rw [List.length_replicate]
  exact own_mono (own_ext hO ((Ext.refl w2).alloc _)) (by simp)
 ·simp only [SS, lqS, List.append_nil, List.nodup_cons, Option.mem_toList]
  refine ⟨fun hm => by have := hvb _ hm; omega, ?_⟩
  cases (Value.slice va n vpc).ownBlock <;> simp
 ·intro x hx
  simp only [SS, lqS, List.append_nil, List.mem_cons, Option.mem_toList] at hx
  rcases hx with rfl | hx
  ·omega
  ·exact (hvb _ hx).1
theorem begin_err (v : Value) (C : List (Int × Int)) (w : World) (h : Code18 w v C) (hl : ¬ C.length ≤ 1024) :
  Calls Tryz.prog 65 #[v] w fun x w' => x = fail 0 6 ∧ w' = w := by
 obtain ⟨ad, cap, rfl, hcap, -⟩ := Rd.shape h
 have hd0 := hidden demand_false
 obtain ⟨n, hn⟩ := ex C.length
 rw [hn] at hl ⊢
 have hld : decide ((n : Int) ≤ 1024) = false := by simp; omega
 clear h hcap hn
 go_enter Tryz.func65, Tryz.ntmps65
 go_wp2_with fail
 refine (hd0.out _ _ _).mono ?_
 rintro e w1 ⟨rfl, hw1⟩
 rw [hw1]
 unfold fail
 go_wp2_with fail
 exact ⟨rfl, rfl, rfl⟩
def WholeP (w : World) (B br : Nat) (vc : Value) (C : List (Int × Int)) (vp : Value) (x : Ending) (w' : World) : Prop :=
 match wholeF C with
 | .error e => x = fail e 15 ∧ Chg (SS br vp none) w w'
 | .ok (t, P) => ∃ v cs, x = .returned v ∧ w'.ownsRow w.heap.size 178 5 v t.len cs ∧ (∀ k ∈ SS br vp none, v.ownBlock ≠ some k) ∧
   Fr w' (fun k => w.heap.size ≤ k ∧ k ∉ SS br vp none ∧ v.ownBlock ≠ some k) t cs ∧ St w' B br vc C vp C.length P none ∧ Chg (SS br vp none) w w'
theorem whole_any (hL : ∀ C f, ListOK C f) (w : World) (B br : Nat) (vc : Value) (C : List (Int × Int)) (vp : Value) (hS : St w B br vc C vp 0 (List.replicate C.length (-1)) none) (hB : B ≤ w.heap.size) (hl : C.length ≤ 1024) :
  Calls Tryz.prog 66 #[.pointer (some ⟨br, 0, none⟩)] w (WholeP w B br vc C vp) := by
 have hcall := hL C (C.length + 1) w B br vc vp 0 0 none _ hS hB hl (Nat.zero_le _) (by omega) (by omega) (by simp [lqL])
 obtain ⟨n, hn⟩ := ex C.length
 obtain ⟨ac, cc, hvc, hcc, -⟩ := hS.code.shape
 rw [hn] at hvc hl
 subst hvc
 have hd0 := hidden demand_false
 have hd1 := hidden demand_true
 have hRw : Hid (wholeF C = match lstF C (C.length + 1) 0 0 false .nil (List.replicate C.length (-1)) [] with
  | .error e => .error e
  | .ok (t, j, P, _) => if j = C.length then .ok (t, P) else .error j) := rfl
 replace hcall := hidden hcall
 replace hS := hidden hS
 replace hn := hidden hn
 go_enter Tryz.func66, Tryz.ntmps66
 go_wp2_with fail
 refine hcall.out.mono ?_
 clear hcall
 rintro e w1 hP
 unfold LstPost at hP
 rw [show (none : LQ).isSome = false from rfl, show lqL none = [] from rfl] at hP
 cases hlk : lstF C (C.length + 1) 0 0 false .nil (List.replicate C.length (-1)) [] with
 | error er =>
  rw [hlk] at hP hRw
  obtain ⟨rfl, hX⟩ := hP
  replace hX := hidden hX
  replace hlk := hidden hlk
  unfold fail
  go_wp2_with fail
  refine ⟨rfl, ?_⟩
  unfold WholeP
  rw [hRw.out]
  exact ⟨rfl, hX.out⟩
 | ok r =>
  rw [hlk] at hP hRw
  obtain ⟨t, j, P, lv⟩ := r
  obtain ⟨v, cs, q', rfl, hO, hoff, hF, hS2, -, hto, hX⟩ := hP
  obtain rfl : q' = none := hto
  obtain ⟨va, vcp, rfl, -⟩ := own_shape hO
  have hB2 := hS2.rd
  obtain ⟨c0, c1⟩ := hB2.c2
  have hge := lst_ge C _ _ _ _ _ _ _ _ (Nat.zero_le _) hlk
  simp only at hge
  rw [hn.out] at hge
  have hjn := hge.2.1
  clear hge hB2
  replace hlk := hidden hlk
  replace hX := hidden hX
  replace hO := hidden hO
  replace hF := hidden hF
  replace hS2 := hidden hS2
  replace hoff := hidden hoff
  by_cases hj : j = n
  ·have hj' : ((j : Int) == (n : Int)) = true := by simp; omega
   go_upto_region 2 with fail
   go_still_tail 14, (by kernel_rfl)
   change wpList _ _ _ _ _ w1.drew
   go_wp2_with fail
   refine (hd1.out _ _ _).mono ?_
   rintro e w9 ⟨rfl, hw9⟩
   rw [hw9]
   go_wp2_with fail
   go_ret
   unfold WholeP
   rw [hRw.out]
   simp only
   rw [if_pos (by rw [hn.out]; exact hj)]
   have XE := (Ext.refl w1).drew
   refine ⟨_, cs, rfl, own_ext hO.out XE, hoff.out, hF.out.ext XE (fun _ _ h => h), ?_, hX.out.drew⟩
   have := hS2.out.ext XE
   rw [hj] at this
   rw [hn.out]
   exact this
  ·have hj' : ((j : Int) == (n : Int)) = false := by simp; omega
   go_upto_region 2 with fail
   go_still_tail 14, (by kernel_rfl)
   change wpList _ _ _ _ _ w1.drew
   go_wp2_with fail
   refine (hd0.out _ _ _).mono ?_
   rintro e w9 ⟨rfl, hw9⟩
   rw [hw9]
   unfold fail
   go_wp2_with fail
   refine ⟨rfl, ?_⟩
   unfold WholeP
   rw [hRw.out]
   rw [if_neg (by rw [hn.out]; exact hj)]
   exact ⟨rfl, hX.out.drew⟩
def parR (C : List (Int × Int)) : T × Int × Int :=
 if C.length ≤ 1024 then match wholeF C with
  | .error e => (.nil, (e : Int), 15)
  | .ok (t, _) => (t, 0, 0)
 else (.nil, 0, 6)
def pairR (C : List (Int × Int)) : List Int × Int :=
 if C.length ≤ 1024 then match wholeF C with
  | .error _ => ([], 15)
  | .ok (_, P) => (P, 0)
 else ([], 6)
def PairP (w : World) (C : List (Int × Int)) (x : Ending) (w' : World) : Prop := ∃ v, x = .returned (.tuple #[v, .int .i64 (pairR C).2]) ∧ OwnI w' w.heap.size v (pairR C).1 ∧ Ext w w'
theorem OwnI.nil (w : World) (B : Nat) : OwnI w B (.slice none 0 0) [] := ⟨by simp, Or.inl ⟨rfl, rfl⟩⟩
theorem pair_any (hL : ∀ C f, ListOK C f) (v : Value) (C : List (Int × Int)) (w : World) (h : Code18 w v C) :
  Calls Tryz.prog 48 #[v] w (PairP w C) := by
 obtain ⟨ad, cap, rfl, hcap, -⟩ := Rd.shape h
 obtain ⟨vv, hv⟩ := ex (Value.slice ad C.length cap)
 rw [hv] at h ⊢
 replace h := hidden h
 obtain ⟨s, hs⟩ := ex w.heap.size
 have X2 : Ext w ((w.alloc (.cells #[.int .i64 0] 33)).alloc (.cells #[.int .i64 0] 3)) := ((Ext.refl w).alloc _).alloc _
 have P0 : Blk ((w.alloc (.cells #[.int .i64 0] 33)).alloc (.cells #[.int .i64 0] 3)) s 33 [.int .i64 0] := by rw [← hs]; exact (Blk.new w _ _).alloc _
 have P1 : Blk ((w.alloc (.cells #[.int .i64 0] 33)).alloc (.cells #[.int .i64 0] 3)) (s + 1) 3 [.int .i64 0] := by
  have := Blk.new (w.alloc (.cells #[.int .i64 0] 33)) [.int .i64 0] 3
  simpa [hs] using this
 obtain ⟨W, hW⟩ := ex ((w.alloc (.cells #[.int .i64 0] 33)).alloc (.cells #[.int .i64 0] 3))
 rw [hW] at X2 P0 P1
 have hsz : W.heap.size = s + 2 := by rw [← hW]; simp [hs]
 replace hW := hidden hW
 replace X2 := hidden X2
 replace P0 := hidden P0
 replace P1 := hidden P1
 go_enter_defers Tryz.func48, Tryz.ntmps48
 have door : ∀ (p e : Int) (w2 : World) (a : Act) (hc : Chg [] w w2) (hb0 : Blk w2 s 33 [.int .i64 0]) (hb1 : Blk w2 (s + 1) 3 [.int .i64 0]), pairR C = ([], e) → a.tmps[2]?.getD undef = .slice none 0 0 → a.tmps[3]?.getD undef = .pointer (some ⟨s, 0, none⟩) → a.tmps[4]?.getD undef = .pointer (some ⟨s + 1, 0, none⟩) →
   a.defers = [{ target := Target.fn (Fn.func 64) #[], args := #[.pointer (some ⟨s + 1, 0, none⟩), .pointer (some ⟨s, 0, none⟩)] }] →
   bodyPostD Tryz.prog Tryz.f48 (PairP w C) (Exit.panic [{ v := .iface 159 (.agg #[.int .i64 p, .int .i64 e]), recovered := false }]) a w2 := by
  intro p e w2 a hc hb0 hb1 hR ha2 ha3 ha4 hd
  obtain ⟨tmps, defers⟩ := a
  simp only at ha2 ha3 ha4 hd
  subst hd
  refine leaves_cons (f := 64) (args := #[.pointer (some ⟨s + 1, 0, none⟩), .pointer (some ⟨s, 0, none⟩)]) (by simp) (by simp [go_sem]) ?_
  refine (rescue_panic (s + 1) s p e 0 0 w2 (hb1.cell 0 _ rfl) (hb0.cell 0 _ rfl) (hb1.frozen 0) (hb0.frozen 0) (by omega)).mono ?_
  rintro e2 u w3 ⟨rfl, rfl, h1, h2, hc3⟩
  have hX : Ext w w3 := (hc.trans hc3 (fun x hx => by simp at hx; rw [hs]; omega)).ext
  have hfin : PairP w C (.returned (.tuple #[.slice none 0 0, .int .i64 e])) w3 := by
   unfold PairP
   rw [hR]
   exact ⟨_, rfl, OwnI.nil _ _, hX⟩
  simp [Leaves, settle, results, Tryz.f48, go_sem, ha2, ha3, ha4, h1, h2]
  exact hfin
 replace door := hidden door
 have hoff : Hid (Code18 W vv C) := hidden (h.out.ext X2.out)
 by_cases hl : C.length ≤ 1024
 ·have hbeg := hidden (begin_any vv C W hoff.out hl)
  go_wp2_with fail
  rw [hW.out]
  refine hbeg.out.mono ?_
  rintro e w2 ⟨br, vp, rfl, hbr, hX2, hSt⟩
  have hX3 := X2.out.trans hX2
  have p0 := P0.out.ext hX2
  have p1 := P1.out.ext hX2
  have hwh := whole_any hL w2 W.heap.size br vv C vp hSt hX2.size hl
  have habove : ∀ x ∈ SS br vp none, s + 2 ≤ x := fun x hx => by have := hSt.above x hx; omega
  replace hwh := hidden hwh
  replace hX3 := hidden hX3
  replace p0 := hidden p0
  replace p1 := hidden p1
  replace hSt := hidden hSt
  have hs2 := hX2.size
  replace habove := hidden habove
  clear hX2 hbeg
  go_wp2_with fail
  refine hwh.out.mono ?_
  clear hwh
  rintro e w3 hP
  unfold WholeP at hP
  have hno : ∀ x ∈ SS br vp none, x ∈ ([] : List Nat) ∨ w.heap.size ≤ x := fun x hx => Or.inr (by have := habove.out x hx; omega)
  cases hw : wholeF C with
  | error er =>
   rw [hw] at hP
   obtain ⟨rfl, hc⟩ := hP
   have hR : pairR C = ([], 15) := by unfold pairR; rw [if_pos hl, hw]
   have q0 := p0.out.chg hc (fun hm => by have := habove.out _ hm; omega)
   have q1 := p1.out.chg hc (fun hm => by have := habove.out _ hm; omega)
   have hc2 : Chg [] w w3 := (Chg.of_ext [] hX3.out).trans hc hno
   unfold fail
   go_wp2_with fail
   exact door.out (er : Int) 15 w3 _ hc2 q0 q1 hR rfl rfl rfl rfl
  | ok r =>
   rw [hw] at hP
   obtain ⟨t, P⟩ := r
   obtain ⟨v, cs, rfl, hO, ho, hF, hS2, hc⟩ := hP
   have hR : pairR C = (P, 0) := by unfold pairR; rw [if_pos hl, hw]
   have q0 := p0.out.chg hc (fun hm => by have := habove.out _ hm; omega)
   have q1 := p1.out.chg hc (fun hm => by have := habove.out _ hm; omega)
   have hc2 : Chg [] w w3 := (Chg.of_ext [] hX3.out).trans hc hno
   have hP := hS2.parts
   obtain ⟨pa, pcp, rfl, -⟩ := own_shape (show w3.ownsRow _ _ _ _ _ _ from hP)
   have hrd := hS2.rd
   have cr := hrd.cell 2 _ rfl
   have hbr3 : s + 2 ≤ br := by omega
   have hpb : ∀ k, (Value.slice pa P.length pcp).ownBlock = some k → s + 2 ≤ k := fun k hk => by have := own_lt hP hk; omega
   obtain ⟨va, vcp, rfl, -⟩ := own_shape hO
   have z0 := q0.cell 0 _ rfl
   have z1 := q1.cell 0 _ rfl
   have y0 := q0.frozen 0
   have y1 := q1.frozen 0
   have hsub : Hid (OwnI w3 W.heap.size (.slice pa P.length pcp) P) := hP
   replace q0 := hidden q0
   replace q1 := hidden q1
   replace hR := hidden hR
   replace hc2 := hidden hc2
   replace hpb := hidden hpb
   clear hO ho hF hS2 hc p0 p1 hP hrd
   go_wp2_with fail
   have b0 := q0.out.set 0 (.int .i64 0)
   have hcw : Chg [s] w3 (w3.setCell ⟨s, 0, none⟩ (.int .i64 0)) := (Chg.refl _ w3).setCell (Or.inl (by simp)) _
   obtain ⟨w4, hw4⟩ := ex (w3.setCell ⟨s, 0, none⟩ (.int .i64 0))
   rw [hw4] at b0 hcw ⊢
   refine leaves_cons (f := 64) (args := #[.pointer (some ⟨s + 1, 0, none⟩), .pointer (some ⟨s, 0, none⟩)]) (by simp) (by simp [go_sem]) ?_
   refine (rescue_idle ⟨s + 1, 0, none⟩ ⟨s, 0, none⟩ w4).mono ?_
   rintro e2 u w5 ⟨rfl, rfl, rfl⟩
   have k0 := b0.cell 0 _ rfl
   have hfin : PairP w C (.returned (.tuple #[.slice pa P.length pcp, .int .i64 0])) w5 := by
    unfold PairP
    rw [hR.out]
    refine ⟨_, rfl, ?_, (hc2.out.trans hcw (fun x hx => by simp at hx; rw [hs]; omega)).ext⟩
    exact own_mono (own_chg hsub.out hcw (fun x hx e => by have := hpb.out x e; simp at hx; omega)) (by omega)
   simp [Leaves, settle, results, Tryz.f48, go_sem, k0]
   exact hfin
 ·have hbeg := hidden (begin_err vv C W hoff.out hl)
  have hR : pairR C = ([], 6) := by unfold pairR; rw [if_neg hl]
  go_wp2_with fail
  rw [hW.out]
  refine hbeg.out.mono ?_
  rintro e w2 ⟨rfl, hw2⟩
  rw [hw2]
  unfold fail
  go_wp2_with fail
  exact door.out 0 6 W _ (Chg.of_ext [] X2.out) P0.out P1.out hR rfl rfl rfl rfl
end Go.Proofs.YtgjjklajipekdaaGreat
