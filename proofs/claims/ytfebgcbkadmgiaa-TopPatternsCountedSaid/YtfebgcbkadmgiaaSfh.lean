/- Layer 32: slices.Repeat of []int{-1}; rows of numbers of the call's own. -/
import Derived.Test.YtfebgcbkadmgiaaSff
import Derived.Test.YtfebgcbkadmgiaaShelf
import Derived.Laws.CopyOwn
import Derived.Laws.OwnMore
import Derived.Deep.RegionLaw
import Derived.Test.YtfebgcbkadmgiaaR
import Derived.StillTailTactics
import Derived.Deep.Cut
namespace Go.Proofs.Ytfebgcbkadmgiaa
open Go.RowKit
set_option linter.unusedVariables false
set_option linter.unusedSimpArgs false
attribute [local go_sem ↓] Go.wp_at_zero Go.wp_at_succ

/-- Numbers that are read, and owned. -/
def RdI (w : World) (v : Value) (l : List Int) : Prop := Rd w 1 v l.length (l.map (Value.int .i64))
def OwnI (w : World) (B : Nat) (v : Value) (l : List Int) : Prop := w.ownsRow B 3 1 v l.length (l.map (Value.int .i64))
theorem OwnI.rd {w : World} {B : Nat} {v : Value} {l : List Int} (h : OwnI w B v l) : RdI w v l := Rd.of_own h
theorem OwnI.set {w : World} {B g n c : Nat} {l : List Int} (h : OwnI w B (.slice (some ⟨g, 0, none⟩) n c) l) (k : Nat) (x : Int) : OwnI (w.setCell ⟨g, k, none⟩ (.int .i64 x)) B (.slice (some ⟨g, 0, none⟩) n c) (l.set k x) := by
  have hn : l.length = n := by obtain ⟨a, c', e, -⟩ := own_shape h; simp only [Value.slice.injEq] at e; exact e.2.1.symm
  unfold OwnI at h ⊢
  rw [List.length_set, List.map_set]
  rw [hn] at h ⊢
  exact (World.ownsRow.stored h k _).1
theorem OwnI.nil (w : World) (B : Nat) : OwnI w B (.slice none 0 0) [] := World.ownsRow_nil _ _ _ _
theorem OwnI.at {w : World} {B g n c : Nat} {l : List Int} (h : OwnI w B (.slice (some ⟨g, 0, none⟩) n c) l) (k : Nat) (hk : k < l.length) : w.cell? ⟨g, k, none⟩ = some (.int .i64 (l.getD k 0)) := by
  rw [World.ownsRow.cellAt (by have hn : l.length = n := by (obtain ⟨a, c', e, -⟩ := own_shape h; simp only [Value.slice.injEq] at e; exact e.2.1.symm)
                               unfold OwnI at h; rw [hn] at h; exact h) k (by have hn : l.length = n := by (obtain ⟨a, c', e, -⟩ := own_shape h; simp only [Value.slice.injEq] at e; exact e.2.1.symm)
                                                                              omega)]
  simp [List.getD, hk]
theorem OwnI.fr {w : World} {B g n c : Nat} {l : List Int} (h : OwnI w B (.slice (some ⟨g, 0, none⟩) n c) l) (k : Nat) : w.frozen? ⟨g, k, none⟩ = false := by
  have hn : l.length = n := by (obtain ⟨a, c', e, -⟩ := own_shape h; simp only [Value.slice.injEq] at e; exact e.2.1.symm)
  unfold OwnI at h
  rw [hn] at h
  exact World.ownsRow.frozenAt h k
theorem OwnI.len {w : World} {B n c : Nat} {a : Option Addr} {l : List Int} (h : OwnI w B (.slice a n c) l) : l.length = n := by
  obtain ⟨a, c', e, -⟩ := own_shape h; simp only [Value.slice.injEq] at e; exact e.2.1.symm
/-- The row with k elements laid. -/
def repR (n k : Nat) : List Value := (List.replicate k (-1 : Int)).map (Value.int .i64) ++ (List.replicate (n - k) (0 : Int)).map (Value.int .i64)
theorem repR_len {n k : Nat} (h : k ≤ n) : (repR n k).length = n := by simp [repR]; omega
theorem repR_splice (n k m : Nat) (h : k + m ≤ n) : splice (repR n k) k ((List.replicate m (-1 : Int)).map (Value.int .i64)) = repR n (k + m) := by
  unfold splice repR
  simp only [List.map_replicate]
  rw [List.take_append_of_le_length (by simp), List.take_of_length_le (by simp), ← List.append_assoc, List.replicate_append_replicate]
  congr 1
  rw [List.drop_append, List.drop_of_length_le (by simp)]
  simp
  omega
theorem oneI (m : Nat) : ∀ v ∈ (List.replicate m (-1 : Int)).map (Value.int .i64), v.oneCell' = true := by
  intro v hv
  rw [List.map_replicate] at hv
  rw [(List.mem_replicate.1 hv).2]
  rfl
theorem repR_cell {w : World} {g n k : Nat} (h : w.heap[g]? = some (.cells (repR n k).toArray 3 (0, 0))) (j : Nat) (hj : j < k) : w.cell? ⟨g, j, none⟩ = some (.int .i64 (-1)) := by
  have : (repR n k)[j]? = some (.int .i64 (-1)) := by
    unfold repR
    rw [List.getElem?_append_left (by simpa using hj), List.getElem?_map, List.getElem?_replicate, if_pos hj]
    rfl
  have hb : Blk w g 3 (repR n k) := h
  exact hb.cell j _ this

set_option maxHeartbeats 1000000 in
set_option maxRecDepth 100000 in
theorem rep_any (b c n : Nat) (w : World) (hc : w.cell? ⟨b, 0, none⟩ = some (.int .i64 (-1))) (hn : n ≤ 1024) :
    Calls Try.prog 19 #[.slice (some ⟨b, 0, none⟩) 1 c, .int .i64 (n : Int)] w fun x w' => ∃ v, x = .returned v ∧ OwnI w' w.heap.size v (List.replicate n (-1)) ∧ Ext w w' := by
  obtain ⟨i1, hi, hz0, hz1, hz2⟩ := info_parts intinfo
  have hsz : (Try.prog.info? 3).map (·.size) = some 1 := by rw [hi]; exact congrArg some hz1
  have hmk1 : ∀ W, (Instr.makeSlice 23 (.int .i64 (n : Int)) (.int .i64 (n : Int))).run Try.prog W = .ok (.slice (some ⟨W.heap.size, 0, none⟩) n n) (W.alloc (.cells (madeCells (Value.int .i64 0).cells n) 3)) := fun W => by
    have := run_make (P := Try.prog) W 23 3 i1 (.int .i64 0) Try.underlying23 hi hz0 .i64 .i64 (n : Int) (n : Int) (by omega) (Int.le_refl _) (by rw [hz2]; omega) (by omega)
    rw [hz1, Nat.mul_one, Int.toNat_natCast] at this
    exact this
  have hmul := Go.Proofs.Try.bits_Mul 1 n (by omega) (by omega)
  rw [show 1 * n / 18446744073709551616 = 0 by omega, show 1 * n % 18446744073709551616 = n by omega] at hmul
  replace hmul := hidden hmul
  have hm0 : Hid (madeCells (Value.int .i64 0).cells n = (repR n 0).toArray) := by
    show _ = _
    rw [← Array.toArray_toList (xs := madeCells (Value.int .i64 0).cells n), made_int]
    simp [repR, iv]
  have hw1 : IntKind.u64.wrap (n : Int) = n := IntWalk.u64_in _ (by omega)
  have hw2 : IntKind.i64.wrap (n : Int) = n := IntWalk.i64_in _ (by omega)
  have hng : ¬ ((n : Int) < 0) := by omega
  obtain ⟨g, hg⟩ : ∃ g, w.heap.size = g := ⟨_, rfl⟩
  replace hg := hidden hg
  replace hi := hidden hi
  go_enter Try.func19, Try.ntmps19
  go_wp2_with fail
  refine (hmul.out _).mono ?_
  rintro e w1 ⟨rfl, hw⟩
  rw [hw]
  clear hw
  have H0 : ∀ t, (w.alloc (.cells (madeCells #[Value.int .i64 0] n) t)).heap[w.heap.size]? = some (.cells (repR n 0).toArray t (0, 0)) := fun t => by
    have := hm0.out
    rw [← this]
    exact heap_alloc_new w _
  obtain ⟨cs, hcs⟩ : ∃ cs, cs = (List.replicate (Nat.min 1 n) (-1 : Int)).map (Value.int .i64) := ⟨_, rfl⟩
  have hcl : cs.length = Nat.min 1 n := by rw [hcs]; simp
  have hc1 : ∀ v ∈ cs, v.oneCell' = true := by rw [hcs]; exact oneI _
  replace hcs := hidden hcs
  have hpos : ∀ (j : Nat) (v : Value), cs[j]? = some v → (w.alloc (.cells (madeCells #[Value.int .i64 0] n) 3)).cell? ((⟨b, 0, none⟩ : Addr).add j) = some v := fun j v hj => by
    have h1 := (List.getElem?_eq_some_iff.1 hj).1
    rw [hcl] at h1
    have : Nat.min 1 n ≤ 1 := Nat.min_le_left 1 n
    obtain rfl : j = 0 := by omega
    rw [hcs.out, List.getElem?_map, List.getElem?_replicate, if_pos (by omega)] at hj
    cases hj
    exact ((Ext.refl w).alloc _).cell hc
  have hfit : 0 + cs.length ≤ (repR n 0).length := by rw [hcl, repR_len (Nat.zero_le n), Nat.zero_add]; exact Nat.min_le_right 1 n
  have e1 : splice (repR n 0) 0 cs = repR n (Nat.min 1 n) := by
    rw [hcs.out, repR_splice n 0 (Nat.min 1 n) (by rw [Nat.zero_add]; exact Nat.min_le_right 1 n), Nat.zero_add]
  replace e1 := hidden e1
  have hclH := hidden hcl
  have hk0 : 0 < n → Nat.min 1 n = 1 := fun h => Nat.min_eq_left h
  obtain ⟨k0, hkk⟩ : ∃ k0, Nat.min 1 n = k0 := ⟨_, rfl⟩
  have hk1 : k0 ≤ n := by rw [← hkk]; exact Nat.min_le_right 1 n
  rw [hkk] at hk0 hcl e1
  replace hkk := hidden hkk
  go_upto_region 7 with fail
  go_wp2_with (refine wpList_copy_splice rfl (.tmp 31) (.tmp 32) 23 23 rfl 3 Try.underlying23 hsz _ _ _ _ _ _ rfl rfl w.heap.size 0 (repR n 0) 3 (H0 _) cs hclH.out (fun _ => ⟨rfl, _, rfl, hpos⟩) hfit hc1 w.heap.size w ((Ext.refl w).alloc _) (Nat.le_refl _) ?_; intro w2 HG2 hB2)
  have hG : Hid (w2.heap[w.heap.size]? = some (.cells (repR n k0).toArray 3 (0, 0))) := by
    show _ = _
    rw [← e1.out]; exact HG2.out
  have hX : Hid (Below w.heap.size w w2) := hB2
  clear hclH
  clear HG2 hB2 e1 hcs hcl hc1 hpos hfit H0 hkk hm0 hmk1 hmul
  go_loopw [8] (fun i wr => ∃ k : Nat, k ≤ n ∧ (0 < n → 0 < k) ∧ i = .int .i64 (k : Int) ∧ Hid (wr.heap[w.heap.size]? = some (.cells (repR n k).toArray 3 (0, 0))) ∧ Hid (Below w.heap.size w wr)) (fun i _ => (n - intOf i).toNat)
  case atStart => exact ⟨k0, hk1, fun h => by have := hk0 h; omega, by go_num, hG, hX⟩
  case round =>
    obtain ⟨k, hk, hk0, rfl, hG, hX⟩ := hrel
    obtain ⟨W, hWW⟩ : ∃ Z, Z = wr := ⟨_, rfl⟩
    subst hWW
    by_cases hlt : k < n
    · have hlt' : (k : Int) < (n : Int) := by omega
      have hkp := hk0 (by omega)
      have hu := Try.underlying23
      have hel : Try.prog.elem 23 = 3 := by unfold Program.elem; rw [hu]
      have ht : Try.prog.underlying 23 = some (.slice (Try.prog.elem 23)) := by rw [hel]; exact hu
      have hcl : ∀ w1, (Instr.sliceAt 23 (.slice (some ⟨w.heap.size, 0, none⟩) n n) (some (.int .i64 (k : Int))) none none).run Try.prog w1 = .ok (.slice (some ⟨w.heap.size, k, none⟩) (n - k) (n - k)) w1 := fun w1 => by
        rw [run_sliceAt_slice w1 _ _ _ _ _ ht, run_slice_l w1 _ _ _ _ ht _ _ (by omega) (by omega), hel, Try.sizeOf3]
        simp [sliced, Addr.add, Result.andThen, show n ≠ k by omega, show k ≠ 0 by omega]
      have hch : ∀ w1, (Instr.sliceAt 23 (.slice (some ⟨w.heap.size, 0, none⟩) n n) none (some (.int .i64 (k : Int))) none).run Try.prog w1 = .ok (.slice (some ⟨w.heap.size, 0, none⟩) k n) w1 := fun w1 => by
        rw [run_sliceAt_slice w1 _ _ _ _ _ ht, run_slice_h w1 _ _ _ _ ht _ _ (by omega) (by omega), hel, Try.sizeOf3]
        simp [sliced, Addr.add, Result.andThen, show n ≠ k by omega, show k ≠ 0 by omega]
      obtain ⟨m, hm⟩ : ∃ m, Nat.min k (n - k) = m := ⟨_, rfl⟩
      have hm1 : m ≤ k := by rw [← hm]; exact Nat.min_le_left _ _
      have hm2 : m ≤ n - k := by rw [← hm]; exact Nat.min_le_right _ _
      have hm3 : 0 < m := by rw [← hm]; exact Nat.lt_min.2 ⟨hkp, by omega⟩
      obtain ⟨cs, hcs⟩ : ∃ cs, cs = (List.replicate m (-1 : Int)).map (Value.int .i64) := ⟨_, rfl⟩
      have hcn : cs.length = Nat.min k (n - k) := by rw [hcs, hm]; simp
      have hcm : cs.length = m := by rw [hcs]; simp
      have hc1 : ∀ v ∈ cs, v.oneCell' = true := by rw [hcs]; exact oneI _
      have hpos : ∀ (j : Nat) (v : Value), cs[j]? = some v → W.drew.cell? ((⟨w.heap.size, 0, none⟩ : Addr).add j) = some v := fun j v hj => by
        have h1 := (List.getElem?_eq_some_iff.1 hj).1
        rw [hcm] at h1
        rw [hcs, List.getElem?_map, List.getElem?_replicate, if_pos h1] at hj
        cases hj
        have := repR_cell hG.out j (by omega)
        unfold Addr.add
        split
        · next hz => subst hz; exact this
        · rw [Nat.zero_add]; exact this
      have hfit : k + cs.length ≤ (repR n k).length := by rw [hcm, repR_len hk]; omega
      have hsp : splice (repR n k) k cs = repR n (k + m) := by rw [hcs]; exact repR_splice n k m (by omega)
      have hwk : IntKind.i64.wrap ((k : Int) + (m : Int)) = (k : Int) + (m : Int) := IntWalk.i64_in _ (by omega)
      replace hcn := hidden hcn
      replace hcs := hidden hcs
      replace hsp := hidden hsp
      replace hm := hidden hm
      have hrun := run_copy_row (P := Try.prog) W.drew 23 23 3 3 w.heap.size k (n - k) (n - k) ⟨w.heap.size, 0, none⟩ k n (repR n k).toArray 3 cs hu hsz hG.out hcn.out hpos (by simpa using hfit) hc1
      obtain ⟨W4, hW4⟩ : ∃ W4, W.drew.setRow w.heap.size ((repR n k).toArray.toList.take k ++ (cs ++ (repR n k).toArray.toList.drop (k + cs.length))).toArray = W4 := ⟨_, rfl⟩
      rw [List.append_assoc, hW4, hcm] at hrun
      have hB4 : Hid (Below w.heap.size w W4) := by
        show Below _ _ _
        rw [← hW4]
        exact below_setRow (Ext.drew hX.out) (Nat.le_refl _) _
      have hG4 : Hid (W4.heap[w.heap.size]? = some (.cells (repR n (k + m)).toArray 3 (0, 0))) := by
        show _ = _
        rw [← hW4, ← hsp.out]
        simpa [splice] using setRow_heap W.drew w.heap.size _ _ 3 _ hG.out
      change (Builtin.copy_ #[23, 23] 3 #[.slice (some ⟨w.heap.size, k, none⟩) (n - k) (n - k), .slice (some ⟨w.heap.size, 0, none⟩) k n]).run Try.prog W.drew = .ok (.int .i64 (m : Int)) W4 at hrun
      replace hW4 := hidden hW4
      clear hu hel ht hcm hfit hpos hc1
      go_upto_region 9 with fail
      go_region
      go_wp2_with fail
      go_roundw
      case rel =>
        exact ⟨k + m, by omega, by omega, by go_num, hG4, hB4⟩
      case measure => simp [intOf]; omega
    · obtain rfl : k = n := by omega
      go_wp2_with fail
      go_ret
      refine ⟨_, rfl, ?_, hX.out⟩
      have hB : Blk W w.heap.size 3 (repR k k) := hG.out
      unfold OwnI
      rw [List.length_replicate]
      refine ⟨by simp, Or.inr ⟨w.heap.size, k, (repR k k).toArray, rfl, Nat.le_refl _, hG.out, Nat.le_refl _, by unfold maxLen; omega, ?_⟩⟩
      refine ⟨by simpa using repR_len (Nat.le_refl k), ?_⟩
      rw [Nat.mul_one, List.take_of_length_le (by have := repR_len (Nat.le_refl k); simp at this ⊢; omega)]
      simp [repR]
end Go.Proofs.Ytfebgcbkadmgiaa
