/- Layer 32: slices.SortFunc with the closure compare, as a contract. -/
import Derived.Test.YtfebgcbkadmgiaaSfd
import Derived.Test.YtfebgcbkadmgiaaShelfS
namespace Go.Proofs.Ytfebgcbkadmgiaa
open Go.RowKit Go.Sort Go.Shelf
set_option linter.unusedVariables false
set_option linter.unusedSimpArgs false

/-- Places as values. -/
def nv (o : List Nat) : List Value := o.map fun x : Nat => .int .i64 (x : Int)
theorem nv_len (o : List Nat) : (nv o).length = o.length := by simp [nv]
theorem nv_get (o : List Nat) (i : Nat) (h : i < o.length) : (nv o)[i]? = some (.int .i64 ((o.getD i 0 : Nat) : Int)) := by simp [nv, h]
def encF {n : Nat} (x : Fin (n + 1)) : Value := .int .i64 (x.val : Int)

section
variable {α : Type} [Inhabited α]
theorem heap_sortWorld (enc : α → Value) (w : World) (blk off m : Nat) (dk : Array α) (os : Array Obj) {k : Nat} (hk : k < w.heap.size) :
    (sortWorld enc w blk off m dk os).heap[k]? = if blk = k then (w.heap[k]?).map (onCells (putCells enc off dk)) else w.heap[k]? := by
  unfold sortWorld
  rw [heap_grow_old _ _ (by unfold putRow mapBlock; simpa using hk)]
  unfold putRow mapBlock
  rw [Array.getElem?_modify]
  rfl
theorem chg_sortWorld (enc : α → Value) (w : World) (blk off m : Nat) (dk : Array α) (os : Array Obj) : Chg [blk] w (sortWorld enc w blk off m dk os) := by
  refine ⟨rfl, rfl, rfl, ?_, fun k hk hs => ?_⟩
  · unfold sortWorld
    rw [size_grow]
    show _ ≤ (w.heap.modify blk _).size + _
    rw [Array.size_modify]
    omega
  · rw [heap_sortWorld enc w blk off m dk os hk, if_neg (by simpa using fun e => hs (by simp [e]))]
theorem blk_sortWorld (enc : α → Value) (w : World) (blk m : Nat) (t : TypeId) (cs : List Value) (dk : Array α) (os : Array Obj) (h : Blk w blk t cs) (hl : cs.length = dk.size) : Blk (sortWorld enc w blk 0 m dk os) blk t (dk.toList.map enc) := by
  unfold Blk
  rw [heap_sortWorld enc w blk 0 m dk os h.lt, if_pos rfl]
  unfold Blk at h
  rw [h]
  simp only [Option.map_some, onCells]
  congr 2
  unfold putCells
  apply Array.ext_getElem?
  intro k
  simp only [Array.getElem?_mapIdx]
  by_cases hk : k < dk.size
  · rw [Array.getElem?_eq_getElem (by simpa [hl] using hk)]
    simp [hk, getElem!_pos]
  · rw [Array.getElem?_eq_none (by simp [hl]; omega), Array.getElem?_eq_none (by simp; omega)]
    rfl
end

theorem extract_all {α : Type} (d : Array α) : (d.extract 0 d.size) = d := by simp
theorem val_ofNat {n x : Nat} (h : x ≤ n) : (Fin.ofNat (n + 1) x).val = x := by simp [Fin.ofNat]; omega

theorem swoR {b : List Int} {L : Nat} {rank : List Int} (h : Suf.RkOk b L rank) : SWO (ltOf fun x y : Fin (b.length + 1) => Suf.cmpR b L rank x.val y.val) := by
  have key : ∀ x y : Fin (b.length + 1), ltOf (fun x y : Fin (b.length + 1) => Suf.cmpR b L rank x.val y.val) x y = Suf.lt (Suf.pre b (L + L) x.val) (Suf.pre b (L + L) y.val) := by
    intro x y
    unfold ltOf
    have := Suf.cmpR_neg h (x := x.val) (y := y.val) (by omega) (by omega)
    by_cases hc : Suf.cmpR b L rank x.val y.val < 0
    · rw [decide_eq_true hc, this.1 hc]
    · rw [decide_eq_false hc]
      cases hl : Suf.lt (Suf.pre b (L + L) x.val) (Suf.pre b (L + L) y.val) with
      | false => rfl
      | true => exact absurd (this.2 hl) hc
  refine ⟨fun x => ?_, fun x y z h1 h2 => ?_, fun x y z h1 h2 => ?_⟩
  · rw [key, Suf.lt_irrefl]
  · rw [key] at *
    exact Suf.lt_trans _ _ _ h1 h2
  · rw [key] at *
    cases h3 : Suf.lt (Suf.pre b (L + L) x.val) (Suf.pre b (L + L) z.val) with
    | false => rfl
    | true =>
      rcases Suf.lt_tri (Suf.pre b (L + L) x.val) (Suf.pre b (L + L) y.val) with k | k | k
      · rw [k] at h1; cases h1
      · rw [k, h2] at h3; cases h3
      · have := Suf.lt_trans _ _ _ k h3; rw [h2] at this; cases this
theorem ltR {b : List Int} {L : Nat} {rank : List Int} (h : Suf.RkOk b L rank) (x y : Fin (b.length + 1)) : ltOf (fun x y : Fin (b.length + 1) => Suf.cmpR b L rank x.val y.val) x y = Suf.lt (Suf.pre b (L + L) x.val) (Suf.pre b (L + L) y.val) := by
  unfold ltOf
  have := Suf.cmpR_neg h (x := x.val) (y := y.val) (by omega) (by omega)
  by_cases hc : Suf.cmpR b L rank x.val y.val < 0
  · rw [decide_eq_true hc, this.1 hc]
  · rw [decide_eq_false hc]
    cases hl : Suf.lt (Suf.pre b (L + L) x.val) (Suf.pre b (L + L) y.val) with
    | false => rfl
    | true => exact absurd (this.2 hl) hc

theorem sort_call (b : List Int) (L : Nat) (rank : List Int) (o : List Nat) (lc nc rc rb rcap ec pb cap : Nat) (hL : L ≤ 131072) (hn : b.length ≤ 65536) (hR : Suf.RkOk b L rank) (ho : o.Perm (List.range (b.length + 1))) (w : World)
    (hl : w.cell? ⟨lc, 0, none⟩ = some (.int .i64 (L : Int))) (hnc : w.cell? ⟨nc, 0, none⟩ = some (.int .i64 (b.length : Int)))
    (hrc : w.cell? ⟨rc, 0, none⟩ = some (.slice (some ⟨rb, 0, none⟩) (b.length + 1) rcap)) (hrr : ∀ j, j ≤ b.length → w.cell? ⟨rb, j, none⟩ = some (.int .i64 (rank.getD j 0)))
    (hec : w.cell? ⟨ec, 0, none⟩ = some (.func (.func 14) #[] #[.pointer (some ⟨lc, 0, none⟩), .pointer (some ⟨nc, 0, none⟩), .pointer (some ⟨rc, 0, none⟩)]))
    (hp : Blk w pb 3 (nv o)) (h1 : lc ≠ pb) (h2 : nc ≠ pb) (h3 : rc ≠ pb) (h4 : rb ≠ pb) (h5 : ec ≠ pb) :
    Calls Try.prog 18 #[.slice (some ⟨pb, 0, none⟩) (b.length + 1) cap, .func (.func 15) #[] #[.pointer (some ⟨rc, 0, none⟩), .pointer (some ⟨ec, 0, none⟩)]] w
      fun e w' => e = .returned (.tuple #[]) ∧ ∃ o' : List Nat, o'.Perm (List.range (b.length + 1)) ∧ Suf.Asc b (L + L) o' ∧ Chg [pb] w w' ∧ Blk w' pb 3 (nv o') := by
  have eg : ∀ args w, (callFunc 15 args).run Try.prog w = .ok (.enter 15 args) w := enters_of Try.func15 (by kernel_rfl) rfl
  have hol : o.length = b.length + 1 := by rw [ho.length_eq]; simp
  have hle : ∀ x ∈ o, x ≤ b.length := fun x hx => by have := List.mem_range.1 (ho.mem_iff.1 hx); omega
  obtain ⟨d, hd⟩ : ∃ d : Array (Fin (b.length + 1)), (o.map (Fin.ofNat (b.length + 1))).toArray = d := ⟨_, rfl⟩
  have hds : d.size = b.length + 1 := by rw [← hd]; simp [hol]
  have hdo : d.toList.map Fin.val = o := by
    rw [← hd]
    simp only [List.map_map]
    conv => rhs; rw [← List.map_id o]
    exact List.map_congr_left fun x hx => val_ofNat (hle x hx)
  have henc : ∀ d : Array (Fin (b.length + 1)), d.toList.map encF = nv (d.toList.map Fin.val) := fun d => by unfold nv encF; rw [List.map_map]; rfl
  have hcmp : CmpLays1 Try.prog 15 #[.pointer (some ⟨rc, 0, none⟩), .pointer (some ⟨ec, 0, none⟩)] encF (fun x y : Fin (b.length + 1) => Suf.cmpR b L rank x.val y.val) pb 0 d.size w := by
    intro m os dk hs x y
    have C := chg_sortWorld encF w pb 0 m dk os
    have hx : x.val ≤ b.length := by omega
    have hy : y.val ≤ b.length := by omega
    refine (compare_any b L rank x.val y.val lc nc rc rb rcap ec hx hy hL hn hR.len _ (C.cell (by simpa using h1) hl) (C.cell (by simpa using h2) hnc) (C.cell (by simpa using h3) hrc) (fun j hj => C.cell (by simpa using h4) (hrr j hj)) (C.cell (by simpa using h5) hec)).mono ?_
    rintro e w' ⟨rfl, q, os', rfl⟩
    exact ⟨rfl, q, os', rfl⟩
  have hH : Holds encF w pb 0 d := by
    intro j hj
    rw [Nat.zero_add]
    refine ⟨hp.cell j _ ?_, hp.frozen j⟩
    rw [← hdo, ← henc, List.getElem?_map, Array.getElem?_toList, Array.getElem?_eq_getElem hj, getElem!_pos d j hj]
    rfl
  have hcon := Any.slices_SortFunc Try.sortFn (encF (n := b.length)) (fun _ => rfl) _ (swoR hR) 15 _ pb 0 cap d w eg hcmp hH hp.lt (by omega)
  change Calls Try.prog 18 _ _ _ at hcon
  rw [hds] at hcon
  refine hcon.mono ?_
  rintro e w' ⟨rfl, d', m, os, hpm, hst, rfl⟩
  obtain ⟨p1, p2, p3⟩ := hpm
  have hs' : d'.size = b.length + 1 := by rw [p1, hds]
  have p4 : d'.toList.Perm d.toList := by
    have e1 : d'.extract 0 (b.length + 1) = d' := by have := extract_all d'; rwa [hs'] at this
    have e2 : d.extract 0 (b.length + 1) = d := by have := extract_all d; rwa [hds] at this
    rw [e1, e2] at p3
    exact p3
  have hgd : ∀ k, (h : k < d'.size) → (d'.toList.map Fin.val).getD k 0 = (d'[k]!).val := fun k h => by
    rw [List.getD_eq_getElem?_getD, List.getElem?_map, Array.getElem?_toList, Array.getElem?_eq_getElem h, getElem!_pos d' k h]
    rfl
  refine ⟨rfl, d'.toList.map Fin.val, ?_, ?_, chg_sortWorld _ _ _ _ _ _ _, ?_⟩
  · rw [← hdo] at ho
    exact (p4.map Fin.val).trans ho
  · intro i j hij hj
    rw [List.length_map, Array.length_toList] at hj
    rw [hgd i (by omega), hgd j hj, ← ltR hR]
    exact hst i j (Nat.zero_le _) hij (by omega)
  · rw [← henc]
    exact blk_sortWorld encF w pb m _ _ d' os hp (by rw [nv_len]; omega)
end Go.Proofs.Ytfebgcbkadmgiaa
