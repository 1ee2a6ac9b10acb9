/- Layer 36: the potentials and the steps, of the program. -/
import Derived.Test.YtjfdmhdmadnkoaaNf
import Derived.Laws.OwnMore
import Derived.Test.YtjfdmhdmadnkoaaLw
import Derived.Test.YtjfdmhdmadnkoaaSb
import Derived.Lib.Bytes
namespace Go.Proofs.Ytjfdmhdmadnkoaa
open Go.RowKit
set_option linter.unusedVariables false
attribute [local go_sem ↓] Go.wp_at_zero Go.wp_at_succ

/-- A row of integers of the call's own. -/
def OwnI (w : World) (B : Nat) (v : Value) (l : List Int) : Prop := w.ownsRow B 3 1 v l.length (l.map (Value.int .i64))
theorem OwnI.rd {w : World} {B : Nat} {v : Value} {l : List Int} (h : OwnI w B v l) : RdI w v l := Rd.of_own h
theorem intinfo : (Try.prog.info? 3).map (fun i => (i.zero, i.size, i.bytes)) = some (some (.int .i64 0), 1, 8) := by kernel_rfl
theorem made_int (n : Nat) : (madeCells (Value.int .i64 0).cells n).toList = (List.replicate n (0 : Int)).map (Value.int .i64) := by
  unfold madeCells
  simp only [Array.toList_map, Array.toList_range]
  rw [List.map_replicate]
  apply List.ext_getElem
  · simp
  · intro i h1 h2
    simp [Value.cells, Nat.mod_one]
theorem made_tok (n : Nat) : (madeCells (Value.agg #[.int .i64 0, .int .i64 0, .int .u8 0]).cells (n * 3)).toList = (List.replicate n ((0 : Int), (0 : Int), (0 : Int))).flatMap tkc := by
  unfold madeCells
  simp only [Array.toList_map, Array.toList_range]
  induction n with
  | zero => rfl
  | succ n ih =>
    rw [List.replicate_succ', List.flatMap_append, ← ih, show (n + 1) * 3 = n * 3 + 1 + 1 + 1 by omega, List.range_succ, List.range_succ, List.range_succ]
    simp only [List.map_append, List.append_assoc]
    congr 1
    have e0 : n * 3 % 3 = 0 := by omega
    have e1 : (n * 3 + 1) % 3 = 1 := by omega
    have e2 : (n * 3 + 1 + 1) % 3 = 2 := by omega
    simp [Value.cells, tkc, e0, e1, e2]
theorem OwnI.set {w : World} {B g n c : Nat} {l : List Int} (h : OwnI w B (.slice (some ⟨g, 0, none⟩) n c) l) (k : Nat) (x : Int) : OwnI (w.setCell ⟨g, k, none⟩ (.int .i64 x)) B (.slice (some ⟨g, 0, none⟩) n c) (l.set k x) := by
  have hn : l.length = n := by obtain ⟨a, c', e, -⟩ := own_shape h; simp only [Value.slice.injEq] at e; exact e.2.1.symm
  unfold OwnI at h ⊢
  rw [List.length_set, List.map_set]
  rw [hn] at h ⊢
  exact (World.ownsRow.stored h k _).1
theorem flat_set (l : List (Int × Int × Int)) (k : Nat) (t : Int × Int × Int) (hk : k < l.length) : (l.set k t).flatMap tkc = (((l.flatMap tkc).set (k * 3) (.int .i64 t.1)).set (k * 3 + 1) (.int .i64 t.2.1)).set (k * 3 + 2) (.int .u8 t.2.2) := by
  induction l generalizing k with
  | nil => simp at hk
  | cons x l ih =>
    cases k with
    | zero => simp [tkc]
    | succ k =>
      have := ih k (by simpa using hk)
      rw [List.set_cons_succ, List.flatMap_cons, this, List.flatMap_cons, show (k + 1) * 3 = k * 3 + 1 + 1 + 1 by omega]
      simp [tkc]
theorem OwnT.set {w : World} {B g n c : Nat} {l : List (Int × Int × Int)} (h : OwnT w B (.slice (some ⟨g, 0, none⟩) n c) l) (k : Nat) (hk : k < l.length) (L D T : Int) :
    OwnT (((w.setCell ⟨g, k * 3, none⟩ (.int .i64 L)).setCell ⟨g, k * 3 + 1, none⟩ (.int .i64 D)).setCell ⟨g, k * 3 + 2, none⟩ (.int .u8 T)) B (.slice (some ⟨g, 0, none⟩) n c) (l.set k (L, D, T)) := by
  have hn : l.length = n := by obtain ⟨a, c', e, -⟩ := own_shape h; simp only [Value.slice.injEq] at e; exact e.2.1.symm
  unfold OwnT at h ⊢
  rw [List.length_set, flat_set l k _ hk]
  rw [hn] at h ⊢
  exact (World.ownsRow.stored (World.ownsRow.stored (World.ownsRow.stored h _ _).1 _ _).1 _ _).1
theorem poW_bd (b : List Int) (j : Nat) : ∀ x ∈ poW b j, 0 ≤ x ∧ x ≤ 41 * (j : Int) := by
  have main : ∀ j, ∀ x ∈ poW b j, x ≤ 41 * (j : Int) := by
    intro j
    induction j with
    | zero => intro x hx; simp [poW] at hx; omega
    | succ j ih =>
      intro x hx
      rw [poW] at hx
      rcases List.mem_or_eq_of_mem_set hx with h | rfl
      · have := ih x h; omega
      · have h1 := (beL_spec (poW_nn b j) (b.length - 1 - j) (chF b (b.length - 1 - j)) (chF_ne b _)).2.1
        have h2 := prc_bd (beL (poW b j) (b.length - 1 - j) (chF b (b.length - 1 - j))).2
        unfold beF
        rw [h1]
        unfold ctP
        have h3 : ∀ i, (poW b j).getD i 0 ≤ 41 * (j : Int) := by
          intro i
          by_cases hi : i < (poW b j).length
          · simp [List.getD, hi]; exact ih _ (List.getElem_mem hi)
          · simp [List.getD, List.getElem?_eq_none (Nat.le_of_not_lt hi)]; omega
        have := h3 (b.length - 1 - j + (szT (beL (poW b j) (b.length - 1 - j) (chF b (b.length - 1 - j))).2).toNat)
        omega
  exact fun x hx => ⟨poW_nn b j x hx, main j x hx⟩
theorem wpOp_value {P : Program} {ops : Array Oper} {Q : Exit → Act → World → Prop} {K : Act → World → Prop} (i : Nat) {oi : Oper} (v : Value) {d : Tmp} {a : Act} {w w' : World} (hi : ops[i]? = some oi) (hd : oi.dst = some d)
    (hw : Region.wanted oi (yielded ops a.tmps) = true) (hy : (execOp a.eval oi).run P w = .ok (.value v) w') (h : K { a with tmps := a.tmps.setIfInBounds d v } w') : wpOp P ops Q i K a w := by
  unfold wpOp
  simp only [hi, hw, if_true]
  left
  unfold Oper.wp
  rw [hy]
  show K (a.put oi.dst v) w'
  rw [hd]
  exact h

def SolP (w : World) (D : List Int) (x : Ending) (w' : World) : Prop := ∃ vp vs, x = .returned (.tuple #[vp, vs]) ∧ OwnI w' w.heap.size vp (poF D) ∧ OwnT w' w.heap.size vs (stW D D.length) ∧ Ext w w'

set_option maxRecDepth 100000 in
set_option maxHeartbeats 4000000 in
theorem psolve_any (v : Value) (D : List Int) (hb : Bytes D) (hl : D.length ≤ 65536) (w : World) (h : Rd8 w v D) :
    Calls Try.prog 32 #[v] w (SolP w D) := by
  have hbe := fun (k : Nat) (hk : k < D.length) (P : List Int) (hPl : P.length = D.length + 1) (hP : ∀ x ∈ P, 0 ≤ x ∧ x ≤ 1000000000) vp W (hW : Rd8 W v D) (hp : RdI W vp P) => pbest_any v vp D P k hb hk hl hPl hP W hW hp
  obtain ⟨ad, cap, rfl, q1, q2, q3⟩ := Rd.shape h
  obtain ⟨m, hm⟩ : ∃ m, D.length = m := ⟨_, rfl⟩
  have hR : Hid (Rd8 w (.slice ad m cap) D) := hidden (by rw [← hm]; exact h)
  rw [hm] at q1 hl hbe ⊢
  obtain ⟨i1, hi, hz0, hz1, hz2⟩ := info_parts intinfo
  obtain ⟨i3, ti, tz0, tz1, tz2⟩ := info_parts tkinfo
  have hmk1 : ∀ W, (Instr.makeSlice 32 (.int .i64 ((m : Int) + 1)) (.int .i64 ((m : Int) + 1))).run Try.prog W = .ok (.slice (some ⟨W.heap.size, 0, none⟩) (m + 1) (m + 1)) (W.alloc (.cells (madeCells (Value.int .i64 0).cells (m + 1)) 3)) := fun W => by
    have := run_make (P := Try.prog) W 32 3 i1 (.int .i64 0) Try.underlying32 hi hz0 .i64 .i64 ((m : Int) + 1) ((m : Int) + 1) (by omega) (Int.le_refl _) (by rw [hz2]; omega) (by omega)
    rw [hz1, Nat.mul_one, show ((m : Int) + 1).toNat = m + 1 by omega] at this
    exact this
  have hmk2 : ∀ W, (Instr.makeSlice 24 (.int .i64 (m : Int)) (.int .i64 (m : Int))).run Try.prog W = .ok (.slice (some ⟨W.heap.size, 0, none⟩) m m) (W.alloc (.cells (madeCells (Value.agg #[.int .i64 0, .int .i64 0, .int .u8 0]).cells (m * 3)) 60)) := fun W => by
    have := run_make (P := Try.prog) W 24 60 i3 (.agg #[.int .i64 0, .int .i64 0, .int .u8 0]) Try.underlying24 ti tz0 .i64 .i64 (m : Int) (m : Int) (by omega) (Int.le_refl _) (by rw [tz2]; omega) (by omega)
    rw [tz1, Int.toNat_natCast] at this
    exact this
  clear hi hz0 hz1 hz2 ti tz0 tz1 tz2
  replace hmk1 := hidden hmk1
  replace hmk2 := hidden hmk2
  replace hm := hidden hm
  replace hb := hidden hb
  replace hbe := hidden hbe
  clear h
  go_enter Try.func32, Try.ntmps32
  go_wp2_with fail
  rename_i KK hKK
  have v0 : IntKind.i64.wrap ((m : Int) + 1) = (m : Int) + 1 := IntWalk.i64_in _ (by omega)
  have main : ∀ (g1 g2 : Nat) (W : World), g1 ≠ g2 → OwnI W w.heap.size (.slice (some ⟨g1, 0, none⟩) (m + 1) (m + 1)) (poW D 0) → OwnT W w.heap.size (.slice (some ⟨g2, 0, none⟩) m m) (stW D 0) → Ext w W → KK { tmps := #[.slice ad m cap, undef, .slice none 0 0, .slice none 0 0, .slice (some ⟨g1, 0, none⟩) (m + 1) (m + 1), .slice (some ⟨g2, 0, none⟩) m m, undef, undef, .slice ad m cap, .int .i64 (m : Int), .int .i64 ((m : Int) + 1), .slice (some ⟨g1, 0, none⟩) (m + 1) (m + 1), .slice ad m cap, .int .i64 (m : Int), .slice (some ⟨g2, 0, none⟩) m m, undef, undef, undef, undef, undef, undef, undef, undef, undef, undef, undef, undef, undef, undef, undef, undef, undef, undef, undef, undef, undef, undef, undef, undef, undef, undef], defers := [] } W := by
    intro g1 g2 W hg hO1 hO2 hX
    have hne : g2 ≠ g1 := fun e => hg e.symm
    replace hO1 := hidden hO1
    replace hO2 := hidden hO2
    refine hKK _ _ ?_
    go_wp2_with fail
    go_loopw [17] (fun i wr => ∃ j : Nat, i = .int .i64 (j : Int) ∧ j ≤ m ∧ Hid (OwnI wr w.heap.size (.slice (some ⟨g1, 0, none⟩) (m + 1) (m + 1)) (poW D j)) ∧ Hid (OwnT wr w.heap.size (.slice (some ⟨g2, 0, none⟩) m m) (stW D j)) ∧ Ext w wr) (fun i _ => m - (intOf i).toNat)
    case atStart => exact ⟨0, rfl, Nat.zero_le _, hO1, hO2, hX⟩
    case round =>
      clear hO1 hO2 hX
      obtain ⟨j, rfl, hj, hO1, hO2, hX⟩ := hrel
      obtain ⟨W2, hWW⟩ : ∃ Z, Z = wr := ⟨_, rfl⟩
      subst hWW
      by_cases hlt : j < m
      · have v1 : IntKind.i64.wrap ((m : Int) - 1) = (m : Int) - 1 := IntWalk.i64_in _ (by omega)
        have v2 : IntKind.i64.wrap ((m : Int) - 1 - (j : Int)) = (m : Int) - 1 - (j : Int) := IntWalk.i64_in _ (by omega)
        obtain ⟨k, hk⟩ : ∃ k : Nat, m - 1 - j = k := ⟨_, rfl⟩
        have hkm : k < m := by omega
        have hkI : (m : Int) - 1 - (j : Int) = (k : Int) := by omega
        have hP : ∀ x ∈ poW D j, 0 ≤ x ∧ x ≤ 1000000000 := fun x hx => by have := poW_bd D j x hx; omega
        have hcb := hbe.out k hkm (poW D j) (by rw [poW_len, hm.out]) hP _ W2 (Rd.ext hR.out hX) hO1.out.rd
        have hn1 : Hid (poW D (j + 1) = (poW D j).set k (beF D (poW D j) k).1) := hidden (by rw [poW, hm.out, hk])
        have hn2 : Hid (stW D (j + 1) = (stW D j).set k (beF D (poW D j) k).2) := hidden (by rw [stW, hm.out, hk])
        obtain ⟨⟨c, L, Ds, B⟩, hN⟩ : ∃ N, beF D (poW D j) k = N := ⟨_, rfl⟩
        rw [hN] at hcb hn1 hn2
        change Calls Try.prog _ _ _ (fun x w' => x = .returned (.tuple #[.agg #[.int .i64 L, .int .i64 Ds, .int .u8 B], .int .i64 c]) ∧ Ext W2 w') at hcb
        simp only at hn1 hn2
        replace hcb := hidden hcb
        have hsl : Hid ((stW D j).length = m) := hidden (by rw [stW_len, hm.out])
        have hpl : Hid ((poW D j).length = m + 1) := hidden (by rw [poW_len, hm.out])
        clear hP hN
        rw [hkI] at v2
        have v3 : (m : Int) - 1 - (j : Int) = (k : Int) := hkI
        have k1 : (0 : Int) ≤ (k : Int) := by omega
        have k2 : (k : Int) < (m : Int) := by omega
        have k3 : (k : Int) < (m : Int) + 1 := by omega
        replace hk := hidden hk
        clear hkI
        go_wp2_with fail
        refine hcb.out.mono ?_
        rintro e1 w3 ⟨rfl, g3⟩
        have hX3 := hX.trans g3
        have o1 := own_ext hO1.out g3
        have o2 := own_ext hO2.out g3
        have o1' : OwnI w3 w.heap.size (.slice (some ⟨g1, 0, none⟩) (m + 1) (m + 1)) (poW D j) := o1
        have o2' : OwnT w3 w.heap.size (.slice (some ⟨g2, 0, none⟩) m m) (stW D j) := o2
        rw [hpl.out] at o1
        rw [hsl.out] at o2
        obtain ⟨y1, hy1⟩ : ∃ y, (poW D j)[k]? = some y := ⟨_, List.getElem?_eq_getElem (by rw [hpl.out]; omega)⟩
        obtain ⟨y2, hy2⟩ : ∃ y, (stW D j)[k]? = some y := ⟨_, List.getElem?_eq_getElem (by rw [hsl.out]; omega)⟩
        have c0 := World.ownsRow.cellAt o1 k (by omega)
        have e0 := World.ownsRow.cellAt o2 (k * 3) (by omega)
        have e1 := World.ownsRow.cellAt o2 (k * 3 + 1) (by omega)
        have e2 := World.ownsRow.cellAt o2 (k * 3 + 2) (by omega)
        rw [List.getElem?_map, hy1] at c0
        have fg := flat_get tkc 3 tkc_len (stW D j) k
        have fg0 := fg 0 y2 hy2 (by decide)
        have fg1 := fg 1 y2 hy2 (by decide)
        have fg2 := fg 2 y2 hy2 (by decide)
        rw [Nat.add_zero] at fg0
        rw [fg0] at e0
        rw [fg1] at e1
        rw [fg2] at e2
        obtain ⟨Y1, Y2, Y3⟩ := y2
        change _ = some (Value.int .i64 Y1) at e0
        change _ = some (Value.int .i64 Y2) at e1
        change _ = some (Value.int .u8 Y3) at e2
        change _ = some (Value.int .i64 y1) at c0
        have f0 := World.ownsRow.frozenAt o1 k
        have f1 := World.ownsRow.frozenAt o2 (k * 3)
        have f2 := World.ownsRow.frozenAt o2 (k * 3 + 1)
        have f3 := World.ownsRow.frozenAt o2 (k * 3 + 2)
        have b1 := (own_lt o1 rfl)
        have b2 := (own_lt o2 rfl)
        replace o1' := hidden o1'
        replace o2' := hidden o2'
        clear o1 o2 fg fg0 fg1 fg2 hy1 hy2 g3 hcb
        go_wp2_with fail
        have p2 := OwnT.set o2'.out k (by rw [hsl.out]; omega) L Ds B
        have hc2 := (((Chg.refl [g2] w3).setCell (p := ⟨g2, k * 3, none⟩) (Or.inl (by simp)) (.int .i64 L)).setCell (p := ⟨g2, k * 3 + 1, none⟩) (Or.inl (by simp)) (.int .i64 Ds)).setCell (p := ⟨g2, k * 3 + 2, none⟩) (Or.inl (by simp)) (.int .u8 B)
        have p1 := OwnI.set (own_chg o1'.out hc2 (fun x hx e => by simp at hx; simp [Value.ownBlock] at e; omega) : OwnI _ _ _ _) k c
        have p2' := own_chg p2 ((Chg.refl [g1] _).setCell (p := ⟨g1, k, none⟩) (Or.inl (by simp)) (.int .i64 c)) (fun x hx e => by simp at hx; simp [Value.ownBlock] at e; omega)
        have hXe := (Ext.set3 hX3 g2 b2.1 (.int .i64 L) (.int .i64 Ds) (.int .u8 B))
        have hXf : Ext w ((((w3.setCell ⟨g2, k * 3, none⟩ (.int .i64 L)).setCell ⟨g2, k * 3 + 1, none⟩ (.int .i64 Ds)).setCell ⟨g2, k * 3 + 2, none⟩ (.int .u8 B)).setCell ⟨g1, k, none⟩ (.int .i64 c)) := (((hX3.setCell (p := ⟨g2, k * 3, none⟩) b2.1 _).setCell (p := ⟨g2, k * 3 + 1, none⟩) b2.1 _).setCell (p := ⟨g2, k * 3 + 2, none⟩) b2.1 _).setCell (p := ⟨g1, k, none⟩) b1.1 _
        go_round
        case rel => exact ⟨j + 1, by go_num, by omega, hidden (by rw [hn1.out]; exact p1), hidden (by rw [hn2.out]; exact p2'), hXf⟩
        case measure => simp [intOf]; omega
      · have hjm : j = m := by omega
        have o1 := hO1.out
        have o2 := hO2.out
        rw [hjm, ← hm.out] at o1 o2
        replace o1 := hidden o1
        replace o2 := hidden o2
        have hmm : Hid (D.length = m) := hm
        clear hO1 hO2 hjm
        go_wp2_with fail
        go_ret2
        exact ⟨_, _, rfl, by have := o1.out; rw [hmm.out] at this; unfold poF; rw [hmm.out]; exact this, by have := o2.out; rw [hmm.out] at this; rw [hmm.out]; exact this, hX⟩
  clear hbe
  have hm1 := hmk1.out
  have hm2 := hmk2.out
  have fin : ∀ (W : World), Ext w W → OwnI (W.alloc (.cells (madeCells (Value.int .i64 0).cells (m + 1)) 3)) w.heap.size (.slice (some ⟨W.heap.size, 0, none⟩) (m + 1) (m + 1)) (poW D 0) := fun W hW => by
    unfold OwnI
    have := World.ownsRow_lit (base := w.heap.size) (e := 3) (size := 1) W (madeCells (Value.int .i64 0).cells (m + 1)) (m + 1) hW.size (by unfold maxLen; omega) (by rw [size_madeCells]; omega)
    rw [made_int] at this
    rw [poW_len, hm.out, poW, hm.out]
    exact this
  have fin2 : ∀ (W : World), Ext w W → OwnT (W.alloc (.cells (madeCells (Value.agg #[.int .i64 0, .int .i64 0, .int .u8 0]).cells (m * 3)) 60)) w.heap.size (.slice (some ⟨W.heap.size, 0, none⟩) m m) (stW D 0) := fun W hW => by
    unfold OwnT
    have := World.ownsRow_lit (base := w.heap.size) (e := 60) (size := 3) W (madeCells (Value.agg #[.int .i64 0, .int .i64 0, .int .u8 0]).cells (m * 3)) m hW.size (by unfold maxLen; omega) (by rw [size_madeCells])
    rw [made_tok] at this
    rw [stW_len, hm.out, stW, hm.out]
    exact this
  replace fin := hidden fin
  replace fin2 := hidden fin2
  refine wp_region_held_drew (S := fun _ => True) (by kernel_rfl) trivial (fun hS1 => ?_)
  refine takeH 0 (.slice ad m cap) rfl rfl (by kernel_rfl) (by kernel_rfl) (by kernel_rfl) (fun _ _ _ h => h) (by rfl) (fun w' hw' => by go_simp) hS1 ?_
  simp only [List.setIfInBounds_toArray, List.set_cons_zero, List.set_cons_succ]
  refine takeH 1 (.int .i64 (m : Int)) rfl rfl (by kernel_rfl) (by kernel_rfl) (by kernel_rfl) (fun _ _ _ h => h) (by rfl) (fun w' hw' => by go_simp) hS1 ?_
  simp only [List.setIfInBounds_toArray, List.set_cons_zero, List.set_cons_succ]
  refine takeH 2 (.int .i64 ((m : Int) + 1)) rfl rfl (by kernel_rfl) (by kernel_rfl) (by kernel_rfl) (fun _ _ _ h => h) (by rfl) (fun w' hw' => by go_simp) hS1 ?_
  simp only [List.setIfInBounds_toArray, List.set_cons_zero, List.set_cons_succ]
  refine takeH 4 (.slice ad m cap) rfl rfl (by kernel_rfl) (by kernel_rfl) (by kernel_rfl) (fun _ _ _ h => h) (by rfl) (fun w' hw' => by go_simp) hS1 ?_
  simp only [List.setIfInBounds_toArray, List.set_cons_zero, List.set_cons_succ]
  refine takeH 5 (.int .i64 (m : Int)) rfl rfl (by kernel_rfl) (by kernel_rfl) (by kernel_rfl) (fun _ _ _ h => h) (by rfl) (fun w' hw' => by go_simp) hS1 ?_
  simp only [List.setIfInBounds_toArray, List.set_cons_zero, List.set_cons_succ]
  have X0 := (Ext.refl w).drew
  refine wpAnyH_all (rs := [3, 6]) (by kernel_rfl) (by simp) ?_
  intro i hi
  rcases List.mem_cons.1 hi with rfl | hi
  · refine wpOp_value 3 (.slice (some ⟨w.heap.size, 0, none⟩) (m + 1) (m + 1)) rfl rfl (by rfl) (w' := w.drew.alloc (.cells (madeCells (Value.int .i64 0).cells (m + 1)) 3)) (by go_simp) ⟨trivial, ?_⟩
    simp only [List.setIfInBounds_toArray, List.set_cons_zero, List.set_cons_succ]
    refine takeH 7 (.slice (some ⟨w.heap.size, 0, none⟩) (m + 1) (m + 1)) rfl rfl (by kernel_rfl) (by kernel_rfl) (by kernel_rfl) (fun _ _ _ h => h) (by rfl) (fun w' hw' => by go_simp) trivial ?_
    simp only [List.setIfInBounds_toArray, List.set_cons_zero, List.set_cons_succ]
    refine wpAnyH_all (rs := [6]) (by kernel_rfl) (by simp) ?_
    intro i hi
    obtain rfl : i = 6 := by simpa using hi
    refine wpOp_value 6 (.slice (some ⟨w.heap.size + 1, 0, none⟩) m m) rfl rfl (by rfl) (w' := (w.drew.alloc (.cells (madeCells (Value.int .i64 0).cells (m + 1)) 3)).alloc (.cells (madeCells (Value.agg #[.int .i64 0, .int .i64 0, .int .u8 0]).cells (m * 3)) 60)) (by go_simp) ⟨trivial, ?_⟩
    simp only [List.setIfInBounds_toArray, List.set_cons_zero, List.set_cons_succ]
    refine takeH 8 (.slice (some ⟨w.heap.size + 1, 0, none⟩) m m) rfl rfl (by kernel_rfl) (by kernel_rfl) (by kernel_rfl) (fun _ _ _ h => h) (by rfl) (fun w' hw' => by go_simp) trivial ?_
    simp only [List.setIfInBounds_toArray, List.set_cons_zero, List.set_cons_succ]
    refine wpAnyH_done (by kernel_rfl) ?_ _
    have o1 := fin.out w.drew X0
    have o2 := fin2.out (w.drew.alloc (.cells (madeCells (Value.int .i64 0).cells (m + 1)) 3)) (X0.alloc _)
    rw [World.size_alloc] at o2
    exact main w.heap.size (w.heap.size + 1) _ (by omega) (own_ext o1 ((Ext.refl _).alloc _)) o2 ((X0.alloc _).alloc _)
  · obtain rfl : i = 6 := by simpa using hi
    refine wpOp_value 6 (.slice (some ⟨w.heap.size, 0, none⟩) m m) rfl rfl (by rfl) (w' := w.drew.alloc (.cells (madeCells (Value.agg #[.int .i64 0, .int .i64 0, .int .u8 0]).cells (m * 3)) 60)) (by go_simp) ⟨trivial, ?_⟩
    simp only [List.setIfInBounds_toArray, List.set_cons_zero, List.set_cons_succ]
    refine wpAnyH_all (rs := [3]) (by kernel_rfl) (by simp) ?_
    intro i hi
    obtain rfl : i = 3 := by simpa using hi
    refine wpOp_value 3 (.slice (some ⟨w.heap.size + 1, 0, none⟩) (m + 1) (m + 1)) rfl rfl (by rfl) (w' := (w.drew.alloc (.cells (madeCells (Value.agg #[.int .i64 0, .int .i64 0, .int .u8 0]).cells (m * 3)) 60)).alloc (.cells (madeCells (Value.int .i64 0).cells (m + 1)) 3)) (by go_simp) ⟨trivial, ?_⟩
    simp only [List.setIfInBounds_toArray, List.set_cons_zero, List.set_cons_succ]
    refine takeH 7 (.slice (some ⟨w.heap.size + 1, 0, none⟩) (m + 1) (m + 1)) rfl rfl (by kernel_rfl) (by kernel_rfl) (by kernel_rfl) (fun _ _ _ h => h) (by rfl) (fun w' hw' => by go_simp) trivial ?_
    simp only [List.setIfInBounds_toArray, List.set_cons_zero, List.set_cons_succ]
    refine takeH 8 (.slice (some ⟨w.heap.size, 0, none⟩) m m) rfl rfl (by kernel_rfl) (by kernel_rfl) (by kernel_rfl) (fun _ _ _ h => h) (by rfl) (fun w' hw' => by go_simp) trivial ?_
    simp only [List.setIfInBounds_toArray, List.set_cons_zero, List.set_cons_succ]
    refine wpAnyH_done (by kernel_rfl) ?_ _
    have o1 := fin.out (w.drew.alloc (.cells (madeCells (Value.agg #[.int .i64 0, .int .i64 0, .int .u8 0]).cells (m * 3)) 60)) (X0.alloc _)
    have o2 := fin2.out w.drew X0
    rw [World.size_alloc] at o1
    exact main (w.heap.size + 1) w.heap.size _ (by omega) o1 (own_ext o2 ((Ext.refl _).alloc _)) ((X0.alloc _).alloc _)
end Go.Proofs.Ytjfdmhdmadnkoaa

/- Layer 36: Potentials and Optimal, of the program and of the reference. -/
namespace Go.Proofs.Ytjfdmhdmadnkoaa
open Go.RowKit
set_option linter.unusedVariables false
attribute [local go_sem ↓] Go.wp_at_zero Go.wp_at_succ

def potE (D : List Int) : Int × List Int := if 65536 < D.length then (5, []) else (0, poF D)
def PotP (w : World) (r : Int × List Int) (x : Ending) (w' : World) : Prop := ∃ v, x = .returned (.tuple #[v, .int .i64 r.1]) ∧ OwnI w' w.heap.size v r.2 ∧ Ext w w'
def optE (D : List Int) : Int × List (Int × Int × Int) × Int := if 65536 < D.length then (5, [], 0) else (0, opF D, (poF D).getD 0 0)
def OptP (w : World) (r : Int × List (Int × Int × Int) × Int) (x : Ending) (w' : World) : Prop := ∃ v, x = .returned (.tuple #[v, .int .i64 r.2.2, .int .i64 r.1]) ∧ OwnT w' w.heap.size v r.2.1 ∧ Ext w w'
theorem OwnI.nil (w : World) (B : Nat) : OwnI w B (.slice none 0 0) [] := World.ownsRow_nil _ _ _ _
theorem OwnI.at {w : World} {B g n c : Nat} {l : List Int} (h : OwnI w B (.slice (some ⟨g, 0, none⟩) n c) l) (k : Nat) (hk : k < l.length) : w.cell? ⟨g, k, none⟩ = some (.int .i64 (l.getD k 0)) := by
  rw [World.ownsRow.cellAt (by have hn : l.length = n := by (obtain ⟨a, c', e, -⟩ := own_shape h; simp only [Value.slice.injEq] at e; exact e.2.1.symm)
                               unfold OwnI at h; rw [hn] at h; exact h) k (by have hn : l.length = n := by (obtain ⟨a, c', e, -⟩ := own_shape h; simp only [Value.slice.injEq] at e; exact e.2.1.symm)
                                                                              omega)]
  simp [List.getD, hk]
theorem OwnI.fr {w : World} {B g n c : Nat} {l : List Int} (h : OwnI w B (.slice (some ⟨g, 0, none⟩) n c) l) (k : Nat) : w.frozen? ⟨g, k, none⟩ = false := by
  have hn : l.length = n := by (obtain ⟨a, c', e, -⟩ := own_shape h; simp only [Value.slice.injEq] at e; exact e.2.1.symm)
  unfold OwnI at h
  rw [hn] at h
  exact World.ownsRow.frozenAt h k
theorem OwnT.len {w : World} {B n c : Nat} {a : Option Addr} {l : List (Int × Int × Int)} (h : OwnT w B (.slice a n c) l) : l.length = n := by
  obtain ⟨a, c', e, -⟩ := own_shape h; simp only [Value.slice.injEq] at e; exact e.2.1.symm
theorem OwnI.len {w : World} {B n c : Nat} {a : Option Addr} {l : List Int} (h : OwnI w B (.slice a n c) l) : l.length = n := by
  obtain ⟨a, c', e, -⟩ := own_shape h; simp only [Value.slice.injEq] at e; exact e.2.1.symm

theorem ppot_any (v : Value) (D : List Int) (hb : Bytes D) (hl : D.length ≤ 9223372036854775807) (w : World) (h : Rd8 w v D) :
    Calls Try.prog 14 #[v] w (PotP w (potE D)) := by
  by_cases k1 : 65536 < D.length
  · rw [show potE D = (5, []) by unfold potE; rw [if_pos k1]]
    obtain ⟨ad, cap, rfl, q1, q2, q3⟩ := Rd.shape h
    clear h hb
    go_enter Try.func14, Try.ntmps14
    go_wp2_with fail
    go_ret2
    exact ⟨_, rfl, OwnI.nil _ _, Ext.refl _⟩
  · rw [show potE D = (0, poF D) by unfold potE; rw [if_neg k1]]
    have hs := psolve_any v D hb (by omega) w h
    obtain ⟨ad, cap, rfl, q1, q2, q3⟩ := Rd.shape h
    replace hs := hidden hs
    clear h hb
    go_enter Try.func14, Try.ntmps14
    go_wp2_with fail
    refine hs.out.mono ?_
    rintro e w1 he
    obtain ⟨vp, vs, rfl, hO, hO2, g⟩ := he
    obtain ⟨ap, cp, rfl, -, -, -⟩ := own_shape hO
    obtain ⟨asx, cs, rfl, -, -, -⟩ := own_shape hO2
    replace hO := hidden hO
    clear hO2
    go_wp2_with fail
    go_ret2
    exact ⟨_, rfl, hO.out, g⟩

set_option maxRecDepth 100000 in
set_option maxHeartbeats 4000000 in
theorem popt_any (v : Value) (D : List Int) (hb : Bytes D) (hl : D.length ≤ 9223372036854775807) (w : World) (h : Rd8 w v D) :
    Calls Try.prog 16 #[v] w (OptP w (optE D)) := by
  by_cases k1 : 65536 < D.length
  · rw [show optE D = (5, [], 0) by unfold optE; rw [if_pos k1]]
    obtain ⟨ad, cap, rfl, q1, q2, q3⟩ := Rd.shape h
    clear h hb
    go_enter Try.func16, Try.ntmps16
    go_wp2_with fail
    go_ret3
    exact ⟨_, rfl, OwnT.nil _ _, Ext.refl _⟩
  · rw [show optE D = (0, opF D, (poF D).getD 0 0) by unfold optE; rw [if_neg k1]]
    have hs := psolve_any v D hb (by omega) w h
    obtain ⟨ad, cap, rfl, q1, q2, q3⟩ := Rd.shape h
    obtain ⟨m, hm⟩ : ∃ m, D.length = m := ⟨_, rfl⟩
    have hop : Hid (opF D = opt D m 0) := hidden (by unfold opF; rw [hm])
    rw [hm] at q1 hl k1 hs ⊢
    obtain ⟨R, hRR⟩ : ∃ R, opF D = R := ⟨_, rfl⟩
    have hsz : ∀ L Ds B W, Calls Try.prog 34 #[.agg #[.int .i64 L, .int .i64 Ds, .int .u8 B]] W _ := fun L Ds B W => psize_any L Ds B W
    obtain ⟨p0, hp0⟩ : ∃ x, (poF D).getD 0 0 = x := ⟨_, rfl⟩
    rw [hRR] at hop ⊢
    rw [hp0]
    replace hp0 := hidden hp0
    replace hs := hidden hs
    replace hm := hidden hm
    replace hb := hidden hb
    replace hsz := hidden hsz
    clear h hRR
    go_enter Try.func16, Try.ntmps16
    go_wp2_with fail
    refine hs.out.mono ?_
    rintro e w1 he
    obtain ⟨vp, vs, rfl, hO1, hO2, g⟩ := he
    obtain ⟨ap, cp, rfl, a1, a2, a3⟩ := own_shape hO1
    obtain ⟨asx, cs, rfl, s1, s2, s3⟩ := own_shape hO2
    rw [poF_len, hm.out] at hO1 a1 a3 ⊢
    obtain ⟨gp, rfl, a4, a5⟩ := a3 (by omega)
    rw [stW_len, hm.out] at hO2 s1 s3 ⊢
    have hP0 := hO1.at 0 (by rw [poF_len]; omega)
    rw [hp0.out] at hP0
    replace hO1 := hidden hO1
    replace hO2 := hidden hO2
    replace hP0 := hidden hP0
    obtain ⟨W1, hW1⟩ : ∃ x, w1 = x := ⟨_, rfl⟩
    subst hW1
    go_wp2_with fail
    go_loopw [7, 8] (fun s i wr => ∃ (k f q : Nat) (ad5 : Option Addr) (c5 : Nat) (out : List (Int × Int × Int)), s = .slice ad5 q c5 ∧ i = .int .i64 (k : Int) ∧ k ≤ m ∧ q ≤ k ∧ m ≤ k + f ∧ Hid (out.length = q) ∧ Hid (OwnT wr w1.heap.size (.slice ad5 q c5) out) ∧ Hid (R = out ++ opt D f k) ∧ Ext w1 wr) (fun _ i _ => m - (intOf i).toNat)
    case atStart => exact ⟨0, m, 0, none, 0, [], rfl, rfl, by omega, by omega, by omega, rfl, hidden (OwnT.nil _ _), by show _ = _; rw [hop.out]; rfl, Ext.refl _⟩
    case round =>
      obtain ⟨k, f, q, ad5, c5, out, rfl, rfl, hk, hqk, hf, hol, hO, hRc, hX⟩ := hrel
      obtain ⟨W, hWW⟩ : ∃ Z, Z = wr := ⟨_, rfl⟩
      subst hWW
      by_cases hlt : k < m
      · obtain ⟨f, rfl⟩ : ∃ g, f = g + 1 := ⟨f - 1, by omega⟩
        obtain ⟨gs, rfl, s4, s5⟩ := s3 (by omega)
        have hst := opt_step (b := D) (f := f) (a := k) (by rw [hm.out]; exact hlt)
        have hsw := stW_at D k (by rw [hm.out]; exact hlt)
        have hck := chc_ok hb.out (show k < D.length by rw [hm.out]; exact hlt) (Nat.min_le_left 4096 k) (Nat.min_le_right 4096 k) (beF_chc D (poF D) (poF_nn D) k)
        obtain ⟨⟨L, Ds, B⟩, hN⟩ : ∃ N, (beF D (poF D) k).2 = N := ⟨_, rfl⟩
        rw [hN] at hst hsw hck
        obtain ⟨u1, u2, u3, u4, u5, u6⟩ := hck
        rw [hm.out] at u3 hsw
        have hget : (stW D m)[k]? = some (L, Ds, B) := by
          have hkl : k < (stW D m).length := by rw [stW_len, hm.out]; exact hlt
          rw [List.getElem?_eq_getElem hkl]
          have := hsw
          simp only [List.getD, List.getElem?_eq_getElem hkl, Option.getD_some] at this
          rw [this]
        have hTs : Hid (∀ W', Ext w1 W' → (W'.cell? ⟨gs, k * 3, none⟩ = some (.int .i64 L) ∧ W'.cell? ⟨gs, k * 3 + 1, none⟩ = some (.int .i64 Ds) ∧ W'.cell? ⟨gs, k * 3 + 2, none⟩ = some (.int .u8 B))) := hidden (fun W' hX => by
          have := OwnT.toks (own_ext hO2.out hX : OwnT W' w.heap.size _ _)
          unfold Toks at this
          rw [stW_len, hm.out] at this
          have h3 := rd3_at tkc_len this k (L, Ds, B) hget _ _ _ rfl
          rw [Nat.zero_add] at h3
          exact h3)
        obtain ⟨c0, c1, c2⟩ := hTs.out W hX
        have hsz1 := hsz.out L Ds B
        obtain ⟨y, hy⟩ : ∃ y, szT (L, Ds, B) = y := ⟨_, rfl⟩
        rw [hy] at hst u3 u5
        simp only [hy] at hsz1
        have hyn : ((k : Int) + y) = ((k + y.toNat : Nat) : Int) := by omega
        have hkI : (k : Int) < (m : Int) := by omega
        have O3 := OwnT.alloc hO.out (.cells #[.int .i64 L, .int .i64 Ds, .int .u8 B] 60)
        have hq3 := Blk.new W [.int .i64 L, .int .i64 Ds, .int .u8 B] 60
        have hs3 : w1.heap.size ≤ (W.alloc (.cells #[.int .i64 L, .int .i64 Ds, .int .u8 B] 60)).heap.size := by rw [World.size_alloc]; have := hX.size; omega
        replace hyn := hidden hyn
        replace hsz1 := hidden hsz1
        replace hst := hidden hst
        replace O3 := hidden O3
        replace hq3 := hidden hq3
        clear hget hsw hN hy u1 u2 u4 u6
        go_wp2_with (at_builtin; refine wpList_appendT (by rfl) _ _ (by rfl) w1.heap.size (.slice ad5 q c5) out (L, Ds, B) W.heap.size O3.out (by rfl) (by rfl) hq3.out (by rw [hol.out]; omega) hs3 ?_; rw [hol.out]; intro g5 cap' w4 hO4 hg4 hat4 hlt4; have hX5 : Ext w1 w4 := ownT_ext1 hX _ hO.out hg4; obtain ⟨d0, d1, d2⟩ := hTs.out w4 hX5)
        replace hO4 := hidden hO4
        go_wp2_with fail
        refine (hsz1.out _).mono ?_
        rintro e w5 ⟨rfl, g5x⟩
        go_wp2_with fail
        go_round
        case rel => exact ⟨k + y.toNat, f, q + 1, _, _, out ++ [(L, Ds, B)], rfl, by rw [hyn.out], by omega, by omega, by omega, hidden (by simp [hol.out]), hidden (own_ext hO4.out g5x), by show _ = _; rw [hRc.out, hst.out]; simp, hX5.trans g5x⟩
        case measure => simp [intOf]; omega
      · have hfin : Hid (R = out) := hidden (by rw [hRc.out, opt_end (by rw [hm.out]; omega), List.append_nil])
        have c0 := hX.cell hP0.out
        have hO' : OwnT W w.heap.size (.slice ad5 q c5) out := own_mono hO.out g.size
        have hXX := g.trans hX
        replace hO' := hidden hO'
        go_wp2_with fail
        go_quiet (fail)
        go_wp2_with fail
        go_ret3
        rw [hfin.out]
        exact ⟨_, rfl, own_ext hO'.out ((Ext.refl W).drewN _), hXX.drewN _⟩

set_option maxRecDepth 100000 in
set_option maxHeartbeats 4000000 in
theorem rpot_any (v : Value) (D : List Int) (hb : Bytes D) (hl : D.length ≤ 9223372036854775807) (w : World) (h : Rd8 w v D) :
    Calls Try.prog 15 #[v] w (PotP w (potE D)) := by
  by_cases k1 : 65536 < D.length
  · rw [show potE D = (5, []) by unfold potE; rw [if_pos k1]]
    obtain ⟨ad, cap, rfl, q1, q2, q3⟩ := Rd.shape h
    clear h hb
    go_enter Try.func15, Try.ntmps15
    go_wp2_with fail
    go_ret2
    exact ⟨_, rfl, OwnI.nil _ _, Ext.refl _⟩
  · rw [show potE D = (0, poF D) by unfold potE; rw [if_neg k1]]
    have hbe := fun (k : Nat) (hk : k < D.length) (P : List Int) (hPl : P.length = D.length + 1) (hP : ∀ x ∈ P, 0 ≤ x ∧ x ≤ 1000000000) vp W (hW : Rd8 W v D) (hp : RdI W vp P) => rbest_any v vp D P k hb hk (by omega) hPl hP W hW hp
    obtain ⟨ad, cap, rfl, q1, q2, q3⟩ := Rd.shape h
    obtain ⟨m, hm⟩ : ∃ m, D.length = m := ⟨_, rfl⟩
    have hR : Hid (Rd8 w (.slice ad m cap) D) := hidden (by rw [← hm]; exact h)
    rw [hm] at q1 hl hbe k1 ⊢
    have hpo : Hid (poF D = poW D m) := hidden (by unfold poF; rw [hm])
    obtain ⟨i1, hi, hz0, hz1, hz2⟩ := info_parts intinfo
    have hmk1 : ∀ W, (Instr.makeSlice 32 (.int .i64 ((m : Int) + 1)) (.int .i64 ((m : Int) + 1))).run Try.prog W = .ok (.slice (some ⟨W.heap.size, 0, none⟩) (m + 1) (m + 1)) (W.alloc (.cells (madeCells (Value.int .i64 0).cells (m + 1)) 3)) := fun W => by
      have := run_make (P := Try.prog) W 32 3 i1 (.int .i64 0) Try.underlying32 hi hz0 .i64 .i64 ((m : Int) + 1) ((m : Int) + 1) (by omega) (Int.le_refl _) (by rw [hz2]; omega) (by omega)
      rw [hz1, Nat.mul_one, show ((m : Int) + 1).toNat = m + 1 by omega] at this
      exact this
    clear hi hz0 hz1 hz2
    have o0 : OwnI (w.alloc (.cells (madeCells (Value.int .i64 0).cells (m + 1)) 3)) w.heap.size (.slice (some ⟨w.heap.size, 0, none⟩) (m + 1) (m + 1)) (poW D 0) := by
      unfold OwnI
      have := World.ownsRow_lit (base := w.heap.size) (e := 3) (size := 1) w (madeCells (Value.int .i64 0).cells (m + 1)) (m + 1) (Nat.le_refl _) (by unfold maxLen; omega) (by rw [size_madeCells]; omega)
      rw [made_int] at this
      rw [poW_len, hm, poW, hm]
      exact this
    have x0 := (Ext.refl w).alloc (.cells (madeCells (Value.int .i64 0).cells (m + 1)) 3)
    have v0 : IntKind.i64.wrap ((m : Int) - 1) = (m : Int) - 1 := IntWalk.i64_in _ (by omega)
    replace o0 := hidden o0
    replace hm := hidden hm
    replace hb := hidden hb
    replace hbe := hidden hbe
    clear h
    go_enter Try.func15, Try.ntmps15
    go_wp2_with fail
    clear hmk1
    go_loopw [5] (fun i wr => ∃ (j : Nat) (z : Int), i = .int .i64 z ∧ z = (m : Int) - 1 - (j : Int) ∧ j ≤ m ∧ Hid (OwnI wr w.heap.size (.slice (some ⟨w.heap.size, 0, none⟩) (m + 1) (m + 1)) (poW D j)) ∧ Ext w wr) (fun i _ => (intOf i + 1).toNat)
    case atStart => exact ⟨0, (m : Int) - 1, rfl, by omega, Nat.zero_le _, o0, x0⟩
    case round =>
      clear o0 x0 v0
      obtain ⟨j, z, rfl, hz, hj, hO1, hX⟩ := hrel
      obtain ⟨W2, hWW⟩ : ∃ Z, Z = wr := ⟨_, rfl⟩
      subst hWW
      by_cases hlt : j < m
      · obtain ⟨k, hk⟩ : ∃ k : Nat, m - 1 - j = k := ⟨_, rfl⟩
        obtain rfl : z = (k : Int) := by omega
        have hkm : k < m := by omega
        have hP : ∀ x ∈ poW D j, 0 ≤ x ∧ x ≤ 1000000000 := fun x hx => by have := poW_bd D j x hx; omega
        have hcb := hbe.out k hkm (poW D j) (by rw [poW_len, hm.out]) hP _ W2 (Rd.ext hR.out hX) hO1.out.rd
        have hn1 : Hid (poW D (j + 1) = (poW D j).set k (beF D (poW D j) k).1) := hidden (by rw [poW, hm.out, hk])
        obtain ⟨⟨c, L, Ds, B⟩, hN⟩ : ∃ N, beF D (poW D j) k = N := ⟨_, rfl⟩
        rw [hN] at hcb hn1
        change Calls Try.prog _ _ _ (fun x w' => x = .returned (.tuple #[.int .i64 c, .agg #[.int .i64 L, .int .i64 Ds, .int .u8 B]]) ∧ Ext W2 w') at hcb
        simp only at hn1
        replace hcb := hidden hcb
        have hpl : Hid ((poW D j).length = m + 1) := hidden (by rw [poW_len, hm.out])
        have k1' : (0 : Int) ≤ (k : Int) := by omega
        have k3 : (k : Int) < (m : Int) + 1 := by omega
        have v2 : IntKind.i64.wrap ((k : Int) - 1) = (k : Int) - 1 := IntWalk.i64_in _ (by omega)
        replace hz := hidden hz
        clear hP hN hk
        go_wp2_with fail
        refine hcb.out.mono ?_
        rintro e1 w3 ⟨rfl, g3⟩
        have hX3 := hX.trans g3
        have o1' : OwnI w3 w.heap.size (.slice (some ⟨w.heap.size, 0, none⟩) (m + 1) (m + 1)) (poW D j) := own_ext hO1.out g3
        have c0 := o1'.at k (by rw [hpl.out]; omega)
        obtain ⟨y, hy⟩ : ∃ y, (poW D j).getD k 0 = y := ⟨_, rfl⟩
        rw [hy] at c0
        have f0 := o1'.fr k
        replace o1' := hidden o1'
        clear g3 hcb hy
        go_wp2_with fail
        have p1 := OwnI.set o1'.out k c
        have hXf : Ext w (w3.setCell ⟨w.heap.size, k, none⟩ (.int .i64 c)) := hX3.setCell (p := ⟨w.heap.size, k, none⟩) (Nat.le_refl _) _
        go_round
        case rel => exact ⟨j + 1, (k : Int) - 1, rfl, by have := hz.out; omega, by omega, hidden (by rw [hn1.out]; exact p1), hXf⟩
        case measure => simp [intOf]
      · have hz0 : ¬ 0 ≤ z := by omega
        have hO2 := hO1.out
        rw [show j = m by omega, ← hpo.out] at hO2
        replace hO2 := hidden hO2
        replace hz := hidden hz
        go_wp2_with fail
        go_ret2
        exact ⟨_, rfl, hO2.out, hX⟩

set_option maxRecDepth 100000 in
set_option maxHeartbeats 4000000 in
theorem ropt_any (v : Value) (D : List Int) (hb : Bytes D) (hl : D.length ≤ 9223372036854775807) (w : World) (h : Rd8 w v D) :
    Calls Try.prog 17 #[v] w (OptP w (optE D)) := by
  have hs := rpot_any v D hb hl w h
  by_cases k1 : 65536 < D.length
  · rw [show optE D = (5, [], 0) by unfold optE; rw [if_pos k1]]
    rw [show potE D = (5, []) by unfold potE; rw [if_pos k1]] at hs
    obtain ⟨ad, cap, rfl, q1, q2, q3⟩ := Rd.shape h
    replace hs := hidden hs
    clear h hb
    go_enter Try.func17, Try.ntmps17
    go_wp2_with fail
    refine hs.out.mono ?_
    rintro e w1 he
    obtain ⟨vp, rfl, hO1, g⟩ := he
    obtain ⟨ap, cp, rfl, a1, a2, a3⟩ := own_shape hO1
    clear hO1 a3
    go_wp2_with fail
    go_ret3
    exact ⟨_, rfl, OwnT.nil _ _, g⟩
  · rw [show optE D = (0, opF D, (poF D).getD 0 0) by unfold optE; rw [if_neg k1]]
    rw [show potE D = (0, poF D) by unfold potE; rw [if_neg k1]] at hs
    have hbe := fun (k : Nat) (hk : k < D.length) (P : List Int) (hPl : P.length = D.length + 1) (hP : ∀ x ∈ P, 0 ≤ x ∧ x ≤ 1000000000) vp W (hW : Rd8 W v D) (hp : RdI W vp P) => rbest_any v vp D P k hb hk (by omega) hPl hP W hW hp
    obtain ⟨ad, cap, rfl, q1, q2, q3⟩ := Rd.shape h
    obtain ⟨m, hm⟩ : ∃ m, D.length = m := ⟨_, rfl⟩
    have hop : Hid (opF D = opt D m 0) := hidden (by unfold opF; rw [hm])
    have hR : Hid (Rd8 w (.slice ad m cap) D) := hidden (by rw [← hm]; exact h)
    have hPb : Hid (∀ x ∈ poF D, 0 ≤ x ∧ x ≤ 1000000000) := hidden (fun x hx => by have := poW_bd D D.length x hx; omega)
    rw [hm] at q1 hl k1 hs hbe ⊢
    obtain ⟨R, hRR⟩ : ∃ R, opF D = R := ⟨_, rfl⟩
    have hsz : ∀ L Ds B W, Calls Try.prog 35 #[.agg #[.int .i64 L, .int .i64 Ds, .int .u8 B]] W _ := fun L Ds B W => rsize_any L Ds B W
    obtain ⟨p0, hp0⟩ : ∃ x, (poF D).getD 0 0 = x := ⟨_, rfl⟩
    rw [hRR] at hop ⊢
    rw [hp0]
    replace hp0 := hidden hp0
    replace hs := hidden hs
    replace hm := hidden hm
    replace hb := hidden hb
    replace hsz := hidden hsz
    replace hbe := hidden hbe
    clear h hRR
    go_enter Try.func17, Try.ntmps17
    go_wp2_with fail
    refine hs.out.mono ?_
    rintro e w1 he
    obtain ⟨vp, rfl, hO1, g⟩ := he
    obtain ⟨ap, cp, rfl, a1, a2, a3⟩ := own_shape hO1
    simp only at hO1 a1 a3
    rw [poF_len, hm.out] at a1 a3
    have e0 : (poF D).length = m + 1 := by rw [poF_len, hm.out]
    simp only [e0]
    have hO1' : OwnI w1 w.heap.size (.slice ap (m + 1) cp) (poF D) := by rw [← e0]; exact hO1
    obtain ⟨gp, rfl, a4, a5⟩ := a3 (by omega)
    have hP0 := hO1'.at 0 (by rw [poF_len]; omega)
    rw [hp0.out] at hP0
    replace hO1 := hidden hO1'
    replace hP0 := hidden hP0
    replace e0 := hidden e0
    clear hO1'
    go_wp2_with fail
    go_loopw [7, 8] (fun s i wr => ∃ (k f q : Nat) (ad5 : Option Addr) (c5 : Nat) (out : List (Int × Int × Int)), s = .slice ad5 q c5 ∧ i = .int .i64 (k : Int) ∧ k ≤ m ∧ q ≤ k ∧ m ≤ k + f ∧ Hid (out.length = q) ∧ Hid (OwnT wr w1.heap.size (.slice ad5 q c5) out) ∧ Hid (R = out ++ opt D f k) ∧ Ext w1 wr) (fun _ i _ => m - (intOf i).toNat)
    case atStart => exact ⟨0, m, 0, none, 0, [], rfl, rfl, by omega, by omega, by omega, rfl, hidden (OwnT.nil _ _), by show _ = _; rw [hop.out]; rfl, Ext.refl _⟩
    case round =>
      obtain ⟨k, f, q, ad5, c5, out, rfl, rfl, hk, hqk, hf, hol, hO, hRc, hX⟩ := hrel
      obtain ⟨W, hWW⟩ : ∃ Z, Z = wr := ⟨_, rfl⟩
      subst hWW
      by_cases hlt : k < m
      · obtain ⟨f, rfl⟩ : ∃ g, f = g + 1 := ⟨f - 1, by omega⟩
        have hst := opt_step (b := D) (f := f) (a := k) (by rw [hm.out]; exact hlt)
        have hck := chc_ok hb.out (show k < D.length by rw [hm.out]; exact hlt) (Nat.min_le_left 4096 k) (Nat.min_le_right 4096 k) (beF_chc D (poF D) (poF_nn D) k)
        have hOp : OwnI W w.heap.size (.slice (some ⟨gp, 0, none⟩) (m + 1) cp) (poF D) := own_ext hO1.out hX
        have hcb := hbe.out k hlt (poF D) e0.out hPb.out _ W (Rd.ext hR.out (g.trans hX)) hOp.rd
        obtain ⟨⟨c, L, Ds, B⟩, hN⟩ : ∃ N, beF D (poF D) k = N := ⟨_, rfl⟩
        rw [hN] at hst hck hcb
        change Calls Try.prog _ _ _ (fun x w' => x = .returned (.tuple #[.int .i64 c, .agg #[.int .i64 L, .int .i64 Ds, .int .u8 B]]) ∧ Ext W w') at hcb
        obtain ⟨u1, u2, u3, u4, u5, u6⟩ := hck
        rw [hm.out] at u3
        have hsz1 := hsz.out L Ds B
        obtain ⟨y, hy⟩ : ∃ y, szT (L, Ds, B) = y := ⟨_, rfl⟩
        simp only at hst u3 u5
        rw [hy] at hst u3 u5
        simp only [hy] at hsz1
        have hyn : ((k : Int) + y) = ((k + y.toNat : Nat) : Int) := by omega
        have hkI : (k : Int) < (m : Int) := by omega
        replace hyn := hidden hyn
        replace hsz1 := hidden hsz1
        replace hst := hidden hst
        replace hcb := hidden hcb
        clear hN hy u1 u2 u4 u6 hOp
        go_wp2_with fail
        refine hcb.out.mono ?_
        rintro e w3 ⟨rfl, g3⟩
        have hX3 := hX.trans g3
        have hX4 := hX3.alloc (.cells #[.int .i64 L, .int .i64 Ds, .int .u8 B] 60)
        have O3 := OwnT.alloc (OwnT.alloc (own_ext hO.out g3 : OwnT w3 w1.heap.size (.slice ad5 q c5) out) (.cells #[.int .i64 L, .int .i64 Ds, .int .u8 B] 60)) (.cells #[.int .i64 L, .int .i64 Ds, .int .u8 B] 60)
        have O3' : OwnT w3 w1.heap.size (.slice ad5 q c5) out := own_ext hO.out g3
        have O4' := OwnT.alloc O3' (.cells #[.int .i64 L, .int .i64 Ds, .int .u8 B] 60)
        have hB3 := Blk.new w3 [.int .i64 L, .int .i64 Ds, .int .u8 B] 60
        have hB3' := hB3.alloc (.cells #[.int .i64 L, .int .i64 Ds, .int .u8 B] 60)
        have hq3 := Blk.newAt (w3.alloc (.cells #[.int .i64 L, .int .i64 Ds, .int .u8 B] 60)) [.int .i64 L, .int .i64 Ds, .int .u8 B] 60 (w3.heap.size + 1) (by simp)
        have hs3 : w1.heap.size ≤ ((w3.alloc (.cells #[.int .i64 L, .int .i64 Ds, .int .u8 B] 60)).alloc (.cells #[.int .i64 L, .int .i64 Ds, .int .u8 B] 60)).heap.size := by rw [World.size_alloc, World.size_alloc]; have := hX3.size; omega
        have hfar : (Value.slice ad5 q c5).ownBlock ≠ some w3.heap.size := fun e => by have h4 := own_lt O3' e; omega
        have d0 := hB3.cell 0 _ rfl
        have d1 := hB3.cell 1 _ rfl
        have d2 := hB3.cell 2 _ rfl
        replace O3 := hidden O3
        replace O4' := hidden O4'
        replace hB3 := hidden hB3
        replace hB3' := hidden hB3'
        replace hq3 := hidden hq3
        replace hX4 := hidden hX4
        replace hfar := hidden hfar
        clear O3'
        go_wp2_with (at_builtin; refine wpList_appendT (by rfl) _ _ (by rfl) w1.heap.size (.slice ad5 q c5) out (L, Ds, B) (w3.heap.size + 1) O3.out (by rfl) (by rfl) hq3.out (by rw [hol.out]; omega) hs3 ?_; rw [hol.out]; intro g5 cap' w4 hO4 hg4 hat4 hlt4; have B4 := hB3'.out.grown hg4 hfar.out; have d0' := B4.cell 0 _ rfl; have d1' := B4.cell 1 _ rfl; have d2' := B4.cell 2 _ rfl)
        have hX5 : Ext w1 w4 := ownT_ext1 hX4.out _ O4'.out hg4
        replace hO4 := hidden hO4
        clear B4
        go_wp2_with fail
        refine (hsz1.out _).mono ?_
        rintro e w5 ⟨rfl, g5x⟩
        go_wp2_with fail
        go_round
        case rel => exact ⟨k + y.toNat, f, q + 1, _, _, out ++ [(L, Ds, B)], rfl, by rw [hyn.out], by omega, by omega, by omega, hidden (by simp [hol.out]), hidden (own_ext hO4.out g5x), by show _ = _; rw [hRc.out, hst.out]; simp, hX5.trans g5x⟩
        case measure => simp [intOf]; omega
      · have hfin : Hid (R = out) := hidden (by rw [hRc.out, opt_end (by rw [hm.out]; omega), List.append_nil])
        have c0 := hX.cell hP0.out
        have hO' : OwnT W w.heap.size (.slice ad5 q c5) out := own_mono hO.out g.size
        have hXX := g.trans hX
        replace hO' := hidden hO'
        go_wp2_with fail
        go_quiet (fail)
        go_wp2_with fail
        go_ret3
        rw [hfin.out]
        exact ⟨_, rfl, own_ext hO'.out ((Ext.refl W).drewN _), hXX.drewN _⟩
end Go.Proofs.Ytjfdmhdmadnkoaa

/- Layer 36: Cost, of the program and of the reference; lists compared; whether a list holds a number out of bounds. -/
namespace Go.Proofs.Ytjfdmhdmadnkoaa
open Go.RowKit
set_option linter.unusedVariables false
attribute [local go_sem ↓] Go.wp_at_zero Go.wp_at_succ

theorem bytesOf_inj {a b : List Int} (ha : Bytes a) (hb : Bytes b) (h : Lib.bytesOf a = Lib.bytesOf b) : a = b := by
  induction a generalizing b with
  | nil => cases b with
    | nil => rfl
    | cons y b => simp [Lib.bytesOf] at h
  | cons x a ih =>
    cases b with
    | nil => simp [Lib.bytesOf] at h
    | cons y b =>
      simp only [Lib.bytesOf, List.map_cons, List.cons.injEq] at h
      have hx := ha x (by simp)
      have hy := hb y (by simp)
      have e := congrArg UInt8.toNat h.1
      simp only [UInt8.toNat_ofNat'] at e
      have : x = y := by omega
      rw [this, ih (fun z hz => ha z (by simp [hz])) (fun z hz => hb z (by simp [hz])) h.2]
theorem str_eq {a b : List Int} (ha : Bytes a) (hb : Bytes b) : ((strOfNums a).toList == (strOfNums b).toList) = decide (a = b) := by
  rw [Bool.eq_iff_iff, beq_iff_eq, decide_eq_true_iff, Lib.strOfNums_toList, Lib.strOfNums_toList]
  exact ⟨fun e => bytesOf_inj ha hb e, fun e => by rw [e]⟩
theorem RdI.some {w : World} {a : Option Addr} {n cap : Nat} {l : List Int} (h : RdI w (.slice a n cap) l) (hn : 0 < l.length) : ∃ b off, a = Option.some ⟨b, off, none⟩ ∧ b < w.heap.size := by
  obtain ⟨_, a', cap', h2, _, _, _, h6⟩ := h
  simp only [Value.slice.injEq] at h2
  obtain ⟨rfl, -, rfl⟩ := h2
  obtain ⟨b', off', e, hb, -⟩ := h6 hn
  exact ⟨b', off', e, hb⟩
theorem RdI.base {w : World} {a : Option Addr} {n cap : Nat} {l : List Int} (h : RdI w (.slice a n cap) l) (hn : 0 < l.length) : ∃ b off, a = Option.some ⟨b, off, none⟩ := by
  obtain ⟨b, off, e, _⟩ := RdI.some h hn
  exact ⟨b, off, e⟩
theorem RdI.at {w : World} {b off n cap : Nat} {l : List Int} (h : RdI w (.slice (Option.some ⟨b, off, none⟩) n cap) l) (i : Nat) (hi : i < l.length) : w.cell? ⟨b, off + i, none⟩ = Option.some (.int .i64 (l.getD i 0)) := by
  obtain ⟨_, a', cap', h2, _, _, _, h6⟩ := h
  simp only [Value.slice.injEq] at h2
  obtain ⟨rfl, -, rfl⟩ := h2
  obtain ⟨b', off', e, -, hc⟩ := h6 (by omega)
  simp only [Option.some.injEq, Addr.mk.injEq, and_true] at e
  obtain ⟨rfl, rfl⟩ := e
  rw [hc i (by simpa using hi)]
  simp [List.getD, hi]

theorem eq8_any (va vb : Value) (la lb : List Int) (w : World) (ha : Rd8 w va la) (hb : Rd8 w vb lb) :
    Calls Try.prog 40 #[va, vb] w fun x w' => x = .returned (.bool (decide (la = lb))) ∧ Ext w w' := by
  obtain ⟨a, ca, rfl, a1, a2, a3⟩ := Rd.shape ha
  obtain ⟨b, cb, rfl, b1, b2, b3⟩ := Rd.shape hb
  by_cases hl : la.length = lb.length
  · obtain ⟨n, hn⟩ : ∃ n, la.length = n := ⟨_, rfl⟩
    rw [hn] at hl a1 ⊢
    rw [← hl]
    rw [← hl] at b1
    have HA := hidden ha
    have HB := hidden hb
    have Hn := hidden hn
    have Hl := hidden hl
    clear ha hb hn hl
    by_cases h0 : n = 0
    · subst h0
      go_enter Try.func40, Try.ntmps40
      go_wp2_with fail
      refine wp_loop_rounds 1 ?_
      rw [rounds_succ]
      go_wp2_with fail
      go_ret
      refine ⟨ret_bool ?_, Ext.refl _⟩
      rw [List.eq_nil_of_length_eq_zero Hn.out, List.eq_nil_of_length_eq_zero Hl.out.symm]
      rfl
    · have ha := HA.out
      have hb := HB.out
      have e1 := Hn.out
      have e2 := Hl.out
      obtain ⟨p, oa, rfl⟩ := Rd8.base ha (by omega)
      obtain ⟨q, ob, rfl⟩ := Rd8.base hb (by omega)
      clear ha hb e1 e2
      go_enter Try.func40, Try.ntmps40
      go_wp2_with fail
      go_loopw [13] (fun i wr => ∃ k : Nat, k ≤ n ∧ i = .int .i64 (k : Int) ∧ Hid (la.take k = lb.take k) ∧ Ext w wr) (fun i _ => (n - intOf i).toNat)
      case atStart => exact ⟨0, by omega, rfl, rfl, Ext.refl _⟩
      case round =>
        obtain ⟨k, hk, rfl, hq, hE⟩ := hrel
        by_cases hlt : k < n
        · have hlt' : (k : Int) < (n : Int) := by omega
          have e1 := Hn.out
          have e2 := Hl.out
          have hx := Rd8.at HA.out k (by omega)
          have hy := Rd8.at HB.out k (by omega)
          obtain ⟨x, hxe⟩ : ∃ x, la.getD k 0 = x := ⟨_, rfl⟩
          obtain ⟨y, hye⟩ : ∃ y, lb.getD k 0 = y := ⟨_, rfl⟩
          rw [hxe] at hx
          rw [hye] at hy
          have hx' := hE.cell hx
          have hy' := hE.cell hy
          have Hx := hidden hxe
          have Hy := hidden hye
          clear hx hy hxe hye e1 e2
          go_upto_region 6 with fail
          go_quiet (fail)
          by_cases hxy : x = y
          · have hxy' : (x != y) = false := by simp [hxy]
            have hq2 : Hid (la.take (k + 1) = lb.take (k + 1)) := by
              have h := hq.out
              have e1 := Hn.out
              have e2 := Hl.out
              have k1 : k < la.length := by omega
              have k2 : k < lb.length := by omega
              have f1 := Hx.out
              have f2 := Hy.out
              simp only [List.getD, k1, k2, List.getElem?_eq_getElem, Option.getD_some] at f1 f2
              show la.take (k + 1) = lb.take (k + 1)
              rw [List.take_succ_eq_append_getElem k1, List.take_succ_eq_append_getElem k2, h, f1, f2, hxy]
            clear hxy
            go_wp2_with fail
            go_roundw
            case rel => exact ⟨k + 1, by omega, by go_num, hq2, ((Chg.of_ext [] hE).drewN _).ext⟩
            case measure => simp [intOf]; omega
          · have hxy' : (x != y) = true := by simp [hxy]
            have hq2 : Hid (la ≠ lb) := by
              intro h
              apply hxy
              rw [← Hx.out, ← Hy.out, h]
            clear hxy
            go_wp2_with fail
            go_ret
            exact ⟨ret_bool (by simp [hq2.out]), ((Chg.of_ext [] hE).drewN _).ext⟩
        · have hkn : k = n := by omega
          subst hkn
          go_wp2_with fail
          go_ret
          refine ⟨ret_bool ?_, hE⟩
          have h := hq.out
          rw [List.take_of_length_le (by rw [Hn.out]; omega), List.take_of_length_le (by rw [← Hl.out]; omega)] at h
          simp [h]
  · have hli : ((la.length : Int) != (lb.length : Int)) = true := by simp; omega
    have hne : la ≠ lb := fun h => hl (by rw [h])
    clear ha hb
    have Hne := hidden hne
    clear hne hl
    obtain ⟨n, hn⟩ : ∃ n, la.length = n := ⟨_, rfl⟩
    obtain ⟨m, hm⟩ : ∃ m, lb.length = m := ⟨_, rfl⟩
    rw [hn, hm] at hli
    rw [hn] at a1 ⊢
    rw [hm] at b1 ⊢
    go_enter Try.func40, Try.ntmps40
    go_wp2_with fail
    go_ret
    exact ⟨ret_bool (by simp [Hne.out]), Ext.refl _⟩


theorem sameI_any (va vb : Value) (la lb : List Int) (w : World) (ha : RdI w va la) (hb : RdI w vb lb) :
    Calls Try.prog 18 #[va, vb] w fun x w' => x = .returned (.bool (decide (la = lb))) ∧ Ext w w' := by
  obtain ⟨a, ca, rfl, a1, a2, a3⟩ := Rd.shape ha
  obtain ⟨b, cb, rfl, b1, b2, b3⟩ := Rd.shape hb
  by_cases hl : la.length = lb.length
  · obtain ⟨n, hn⟩ : ∃ n, la.length = n := ⟨_, rfl⟩
    rw [hn] at hl a1 ⊢
    rw [← hl]
    rw [← hl] at b1
    have HA := hidden ha
    have HB := hidden hb
    have Hn := hidden hn
    have Hl := hidden hl
    clear ha hb hn hl
    by_cases h0 : n = 0
    · subst h0
      go_enter Try.func18, Try.ntmps18
      go_wp2_with fail
      refine wp_loop_rounds 1 ?_
      rw [rounds_succ]
      go_wp2_with fail
      go_ret
      refine ⟨ret_bool ?_, Ext.refl _⟩
      rw [List.eq_nil_of_length_eq_zero Hn.out, List.eq_nil_of_length_eq_zero Hl.out.symm]
      rfl
    · have ha := HA.out
      have hb := HB.out
      have e1 := Hn.out
      have e2 := Hl.out
      obtain ⟨p, oa, rfl⟩ := RdI.base ha (by omega)
      obtain ⟨q, ob, rfl⟩ := RdI.base hb (by omega)
      clear ha hb e1 e2
      go_enter Try.func18, Try.ntmps18
      go_wp2_with fail
      go_loopw [5] (fun i wr => ∃ k : Nat, k ≤ n ∧ i = .int .i64 (k : Int) ∧ Hid (la.take k = lb.take k) ∧ Ext w wr) (fun i _ => (n - intOf i).toNat)
      case atStart => exact ⟨0, by omega, rfl, rfl, Ext.refl _⟩
      case round =>
        obtain ⟨k, hk, rfl, hq, hE⟩ := hrel
        by_cases hlt : k < n
        · have hlt' : (k : Int) < (n : Int) := by omega
          have e1 := Hn.out
          have e2 := Hl.out
          have hx := RdI.at HA.out k (by omega)
          have hy := RdI.at HB.out k (by omega)
          obtain ⟨x, hxe⟩ : ∃ x, la.getD k 0 = x := ⟨_, rfl⟩
          obtain ⟨y, hye⟩ : ∃ y, lb.getD k 0 = y := ⟨_, rfl⟩
          rw [hxe] at hx
          rw [hye] at hy
          have hx' := hE.cell hx
          have hy' := hE.cell hy
          have Hx := hidden hxe
          have Hy := hidden hye
          clear hx hy hxe hye e1 e2
          go_upto_region 6 with fail
          go_quiet (fail)
          by_cases hxy : x = y
          · have hxy' : (x != y) = false := by simp [hxy]
            have hq2 : Hid (la.take (k + 1) = lb.take (k + 1)) := by
              have h := hq.out
              have e1 := Hn.out
              have e2 := Hl.out
              have k1 : k < la.length := by omega
              have k2 : k < lb.length := by omega
              have f1 := Hx.out
              have f2 := Hy.out
              simp only [List.getD, k1, k2, List.getElem?_eq_getElem, Option.getD_some] at f1 f2
              show la.take (k + 1) = lb.take (k + 1)
              rw [List.take_succ_eq_append_getElem k1, List.take_succ_eq_append_getElem k2, h, f1, f2, hxy]
            clear hxy
            go_wp2_with fail
            go_roundw
            case rel => exact ⟨k + 1, by omega, by go_num, hq2, ((Chg.of_ext [] hE).drewN _).ext⟩
            case measure => simp [intOf]; omega
          · have hxy' : (x != y) = true := by simp [hxy]
            have hq2 : Hid (la ≠ lb) := by
              intro h
              apply hxy
              rw [← Hx.out, ← Hy.out, h]
            clear hxy
            go_wp2_with fail
            go_ret
            exact ⟨ret_bool (by simp [hq2.out]), ((Chg.of_ext [] hE).drewN _).ext⟩
        · have hkn : k = n := by omega
          subst hkn
          go_wp2_with fail
          go_ret
          refine ⟨ret_bool ?_, hE⟩
          have h := hq.out
          rw [List.take_of_length_le (by rw [Hn.out]; omega), List.take_of_length_le (by rw [← Hl.out]; omega)] at h
          simp [h]
  · have hli : ((la.length : Int) != (lb.length : Int)) = true := by simp; omega
    have hne : la ≠ lb := fun h => hl (by rw [h])
    clear ha hb
    have Hne := hidden hne
    clear hne hl
    obtain ⟨n, hn⟩ : ∃ n, la.length = n := ⟨_, rfl⟩
    obtain ⟨m, hm⟩ : ∃ m, lb.length = m := ⟨_, rfl⟩
    rw [hn, hm] at hli
    rw [hn] at a1 ⊢
    rw [hm] at b1 ⊢
    go_enter Try.func18, Try.ntmps18
    go_wp2_with fail
    go_ret
    exact ⟨ret_bool (by simp [Hne.out]), Ext.refl _⟩


/-- The cost of a list of tokens. -/
def cosE (l : List (Int × Int × Int)) : Int × Int := if chkF l ≠ 0 then (chkF l, 0) else (0, sumP l)
set_option maxRecDepth 100000 in
set_option maxHeartbeats 2000000 in
theorem pcost_any (v : Value) (l : List (Int × Int × Int)) (hok : OkTs l) (w : World) (h : Toks w v l) :
    Calls Try.prog 19 #[v] w fun x w' => x = .returned (.tuple #[.int .i64 (cosE l).2, .int .i64 (cosE l).1]) ∧ Ext w w' := by
  have hc := lchk_any v l hok w h
  obtain ⟨a, cap, rfl, h1, h2, h3⟩ := Rd.shape h
  obtain ⟨n, hn⟩ : ∃ n, l.length = n := ⟨_, rfl⟩
  have h : Rd w 3 (.slice a l.length cap) l.length (l.flatMap tkc) := h
  have hle : chkF l = 0 → l.length ≤ 65536 := fun e => by unfold chkF at e; split at e <;> first | cases e | omega
  rw [hn] at h h1 hc hle ⊢
  replace hn := hidden hn
  replace h := hidden h
  replace hok := hidden hok
  by_cases k0 : chkF l = 0
  · have hE : Hid (cosE l = (0, sumP l)) := hidden (by unfold cosE; rw [if_neg (by simp [k0])])
    rw [k0] at hc
    have hn6 := hle k0
    replace hc := hidden hc
    clear hle k0
    go_enter Try.func19, Try.ntmps19
    go_wp2_with fail
    refine hc.out.mono ?_
    rintro e w1 ⟨rfl, g1⟩
    go_wp2_with fail
    go_loopw [5, 15] (fun s i wr => ∃ (k : Nat) (z : Int), k ≤ n ∧ i = .int .i64 (k : Int) ∧ s = .int .i64 z ∧ 0 ≤ z ∧ z ≤ 41 * (k : Int) ∧ Hid (z = sumP (l.take k)) ∧ Ext w wr) (fun _ i _ => n - (intOf i).toNat)
    case atStart => exact ⟨0, 0, by omega, rfl, rfl, by omega, by omega, rfl, g1⟩
    case round =>
      obtain ⟨k, z, hk, rfl, rfl, l0, l1, hl, hX⟩ := hrel
      obtain ⟨W, hWW⟩ : ∃ Z, Z = wr := ⟨_, rfl⟩
      subst hWW
      by_cases hlt : k < n
      · obtain ⟨b, off, rfl, -, -⟩ := h.out.cells (by omega)
        obtain ⟨x, hx, hxm⟩ := at_lt l (k := k) (by rw [hn.out]; exact hlt)
        obtain ⟨c0, c1, c2⟩ := rd3_at tkc_len h.out k x hx _ _ _ rfl
        have hst : Hid (sumP (l.take (k + 1)) = sumP (l.take k) + prc x) := hidden (by rw [take_at hx, sumP_snoc])
        obtain ⟨L, D, B⟩ := x
        simp only at c0 c1 c2
        have d0 := hX.cell c0
        have d1 := hX.cell c1
        have d2 := hX.cell c2
        have hp := lprice_any L D B
        have hpb := prc_bd (L, D, B)
        obtain ⟨q, hq⟩ : ∃ q, prc (L, D, B) = q := ⟨_, rfl⟩
        rw [hq] at hpb
        simp only [hq] at hst hp
        obtain ⟨q0, q1⟩ := hpb
        have hp' : ∀ W, Calls Try.prog _ #[.agg #[.int .i64 L, .int .i64 D, .int .u8 B]] W _ := hp
        replace hp' := hidden hp'
        replace hx := hidden hx
        replace hxm := hidden hxm
        clear hq c0 c1 c2 hp
        have B1 := Blk.new W [.int .i64 L, .int .i64 D, .int .u8 B] 60
        have y0 := B1.cell 0 _ rfl
        have y1 := B1.cell 1 _ rfl
        have y2 := B1.cell 2 _ rfl
        replace B1 := hidden B1
        go_wp2_with fail
        refine (hp'.out _).mono ?_
        rintro e w2 ⟨rfl, g2⟩
        go_wp2_with fail
        go_round
        case rel => exact ⟨k + 1, z + q, by omega, by go_num, rfl, by omega, by omega, by show _ = _; rw [hst.out, ← hl.out], (hX.alloc _).trans g2⟩
        case measure => simp [intOf]; omega
      · obtain rfl : k = n := by omega
        have hE2 : Hid (sumP l = z) := by show _ = _; rw [hl.out, List.take_of_length_le (by rw [hn.out]; exact Nat.le_refl _)]
        go_wp2_with fail
        go_ret2
        exact ⟨by rw [hE.out, hE2.out]; rfl, hX⟩
  · have hE : Hid (cosE l = (chkF l, 0)) := hidden (by unfold cosE; rw [if_pos k0])
    obtain ⟨q, hq⟩ : ∃ q, chkF l = q := ⟨_, rfl⟩
    rw [hq] at hc hE k0
    have hq1 : (q != 0) = true := by simp [k0]
    replace hc := hidden hc
    clear hle hq
    go_enter Try.func19, Try.ntmps19
    go_wp2_with fail
    refine hc.out.mono ?_
    rintro e w1 ⟨rfl, g1⟩
    go_wp2_with fail
    go_ret2
    exact ⟨by rw [hE.out]; rfl, g1⟩

set_option maxRecDepth 100000 in
set_option maxHeartbeats 2000000 in
theorem rcost_any (v : Value) (l : List (Int × Int × Int)) (hok : OkTs l) (w : World) (h : Toks w v l) :
    Calls Try.prog 20 #[v] w fun x w' => x = .returned (.tuple #[.int .i64 (cosE l).2, .int .i64 (cosE l).1]) ∧ Ext w w' := by
  have hc := rchk_any v l hok w h
  obtain ⟨a, cap, rfl, h1, h2, h3⟩ := Rd.shape h
  obtain ⟨n, hn⟩ : ∃ n, l.length = n := ⟨_, rfl⟩
  have h : Rd w 3 (.slice a l.length cap) l.length (l.flatMap tkc) := h
  have hle : chkF l = 0 → l.length ≤ 65536 := fun e => by unfold chkF at e; split at e <;> first | cases e | omega
  rw [hn] at h h1 hc hle ⊢
  replace hn := hidden hn
  replace h := hidden h
  replace hok := hidden hok
  by_cases k0 : chkF l = 0
  · have hE : Hid (cosE l = (0, sumP l)) := hidden (by unfold cosE; rw [if_neg (by simp [k0])])
    rw [k0] at hc
    have hn6 := hle k0
    replace hc := hidden hc
    clear hle k0
    go_enter Try.func20, Try.ntmps20
    go_wp2_with fail
    refine hc.out.mono ?_
    rintro e w1 ⟨rfl, g1⟩
    go_wp2_with fail
    go_loopw [5, 6] (fun s i wr => ∃ (k : Nat) (z : Int), k ≤ n ∧ i = .int .i64 (k : Int) ∧ s = .int .i64 z ∧ 0 ≤ z ∧ z ≤ 41 * (k : Int) ∧ Hid (z = sumP (l.take k)) ∧ Ext w wr) (fun _ i _ => n - (intOf i).toNat)
    case atStart => exact ⟨0, 0, by omega, rfl, rfl, by omega, by omega, rfl, g1⟩
    case round =>
      obtain ⟨k, z, hk, rfl, rfl, l0, l1, hl, hX⟩ := hrel
      obtain ⟨W, hWW⟩ : ∃ Z, Z = wr := ⟨_, rfl⟩
      subst hWW
      by_cases hlt : k < n
      · obtain ⟨b, off, rfl, -, -⟩ := h.out.cells (by omega)
        obtain ⟨x, hx, hxm⟩ := at_lt l (k := k) (by rw [hn.out]; exact hlt)
        obtain ⟨c0, c1, c2⟩ := rd3_at tkc_len h.out k x hx _ _ _ rfl
        have hst : Hid (sumP (l.take (k + 1)) = sumP (l.take k) + prc x) := hidden (by rw [take_at hx, sumP_snoc])
        obtain ⟨L, D, B⟩ := x
        simp only at c0 c1 c2
        have d0 := hX.cell c0
        have d1 := hX.cell c1
        have d2 := hX.cell c2
        have hp := rprice_any L D B
        have hpb := prc_bd (L, D, B)
        obtain ⟨q, hq⟩ : ∃ q, prc (L, D, B) = q := ⟨_, rfl⟩
        rw [hq] at hpb
        simp only [hq] at hst hp
        obtain ⟨q0, q1⟩ := hpb
        have hp' : ∀ W, Calls Try.prog _ #[.agg #[.int .i64 L, .int .i64 D, .int .u8 B]] W _ := hp
        replace hp' := hidden hp'
        replace hx := hidden hx
        replace hxm := hidden hxm
        clear hq c0 c1 c2 hp
        go_wp2_with fail
        refine (hp'.out _).mono ?_
        rintro e w2 ⟨rfl, g2⟩
        go_wp2_with fail
        go_round
        case rel => exact ⟨k + 1, z + q, by omega, by go_num, rfl, by omega, by omega, by show _ = _; rw [hst.out, ← hl.out], hX.trans g2⟩
        case measure => simp [intOf]; omega
      · obtain rfl : k = n := by omega
        have hE2 : Hid (sumP l = z) := by show _ = _; rw [hl.out, List.take_of_length_le (by rw [hn.out]; exact Nat.le_refl _)]
        go_wp2_with fail
        go_ret2
        exact ⟨by rw [hE.out, hE2.out]; rfl, hX⟩
  · have hE : Hid (cosE l = (chkF l, 0)) := hidden (by unfold cosE; rw [if_pos k0])
    obtain ⟨q, hq⟩ : ∃ q, chkF l = q := ⟨_, rfl⟩
    rw [hq] at hc hE k0
    have hq1 : (q != 0) = true := by simp [k0]
    replace hc := hidden hc
    clear hle hq
    go_enter Try.func20, Try.ntmps20
    go_wp2_with fail
    refine hc.out.mono ?_
    rintro e w1 ⟨rfl, g1⟩
    go_wp2_with fail
    go_ret2
    exact ⟨by rw [hE.out]; rfl, g1⟩


theorem bad_any (x : Int) (w : World) : Calls Try.prog 42 #[.int .i64 x] w fun e w' => e = .returned (.bool (decide (x < 0 ∨ 589824 < x))) ∧ Ext w w' := by
  by_cases h1 : x < 0
  · skip
    go_enter Try.func42, Try.ntmps42
    go_wp2_with fail
    go_ret
    exact ⟨ret_bool (by simp [h1]), Ext.refl _⟩
  · by_cases h2 : 589824 < x
    · skip
      go_enter Try.func42, Try.ntmps42
      go_wp2_with fail
      go_ret
      exact ⟨ret_bool (by simp), Ext.refl _⟩
    · skip
      go_enter Try.func42, Try.ntmps42
      go_wp2_with fail
      go_ret
      exact ⟨ret_bool (by rw [Bool.eq_iff_iff]; simp; omega), Ext.refl _⟩
/-- Some number out of bounds. -/
def badP (P : List Int) : Bool := P.any (fun x => decide (x < 0 ∨ 589824 < x))
theorem badP_no {P : List Int} (h : badP P = false) : ∀ x ∈ P, 0 ≤ x ∧ x ≤ 589824 := fun x hx => by
  unfold badP at h
  rw [List.any_eq_false] at h
  have := h x hx
  simp at this
  omega

set_option maxRecDepth 100000 in
theorem index_any (v : Value) (P : List Int) (hl : P.length ≤ 1000000) (w : World) (h : RdI w v P) :
    Calls Try.prog 58 #[v, .func (.func 42) #[] #[]] w fun e w' => ∃ i : Int, e = .returned (.int .i64 i) ∧ decide (0 ≤ i) = badP P ∧ Ext w w' := by
  obtain ⟨a, cap, rfl, h1, h2, h3⟩ := Rd.shape h
  obtain ⟨n, hn⟩ : ∃ n, P.length = n := ⟨_, rfl⟩
  rw [hn] at h1 hl ⊢
  replace h := hidden h
  replace hn := hidden hn
  have hbad := bad_any
  replace hbad := hidden hbad
  go_enter Try.func58, Try.ntmps58
  go_wp2_with fail
  go_loopw [8] (fun i wr => ∃ k : Nat, k ≤ n ∧ i = .int .i64 (k : Int) ∧ Hid (badP (P.take k) = false) ∧ Ext w wr) (fun i _ => n - (intOf i).toNat)
  case atStart => exact ⟨0, by omega, rfl, by show _ = _; rfl, Ext.refl _⟩
  case round =>
    obtain ⟨k, hk, rfl, hq, hX⟩ := hrel
    obtain ⟨W, hWW⟩ : ∃ Z, Z = wr := ⟨_, rfl⟩
    subst hWW
    by_cases hlt : k < n
    · have hlt' : (k : Int) < (n : Int) := by omega
      obtain ⟨p, oa, rfl⟩ := RdI.base h.out (by rw [hn.out]; omega)
      have hx := hX.cell (RdI.at h.out k (by rw [hn.out]; omega))
      obtain ⟨x, hxe⟩ : ∃ x, P.getD k 0 = x := ⟨_, rfl⟩
      rw [hxe] at hx
      have hPk : P[k]? = some x := by
        have hk2 : k < P.length := by rw [hn.out]; exact hlt
        rw [List.getElem?_eq_getElem hk2, ← hxe]
        simp [List.getD, hk2]
      have hst : badP (P.take (k + 1)) = (badP (P.take k) || decide (x < 0 ∨ 589824 < x)) := by
        rw [take_at hPk]; unfold badP; simp
      have hmem : x ∈ P := List.mem_of_getElem? hPk
      have hb1 := hbad.out x
      obtain ⟨bb, hbb⟩ : ∃ b, decide (x < 0 ∨ 589824 < x) = b := ⟨_, rfl⟩
      have hany : bb = true → badP P = true := fun e => by unfold badP; rw [List.any_eq_true]; exact ⟨x, hmem, by rw [hbb, e]⟩
      rw [hbb, hq.out, Bool.false_or] at hst
      simp only [hbb] at hb1
      replace hst := hidden hst
      replace hb1 := hidden hb1
      replace hany := hidden hany
      clear hxe hPk hmem hbb
      go_wp2_with fail
      refine (hb1.out _).mono ?_
      rintro e w2 ⟨rfl, g2⟩
      cases bb with
      | true =>
        have hf := hany.out rfl
        replace hf := hidden hf
        go_wp2_with fail
        go_ret
        exact ⟨_, rfl, by rw [hf.out]; simp, hX.trans g2⟩
      | false =>
        go_wp2_with fail
        go_round
        case rel => exact ⟨k + 1, by omega, by go_num, hst, hX.trans g2⟩
        case measure => simp [intOf]; omega
    · have hf : Hid (badP P = false) := hidden (by have := hq.out; rw [List.take_of_length_le (by rw [hn.out]; omega)] at this; exact this)
      go_wp2_with fail
      go_ret
      exact ⟨_, rfl, by rw [hf.out]; simp, hX⟩
theorem contains_any (v : Value) (P : List Int) (hl : P.length ≤ 1000000) (w : World) (h : RdI w v P) :
    Calls Try.prog 41 #[v, .func (.func 42) #[] #[]] w fun e w' => e = .returned (.bool (badP P)) ∧ Ext w w' := by
  have hi := index_any v P hl w h
  obtain ⟨a, cap, rfl, h1, h2, h3⟩ := Rd.shape h
  replace hi := hidden hi
  clear h
  obtain ⟨bb, hbb⟩ : ∃ b, badP P = b := ⟨_, rfl⟩
  rw [hbb]
  replace hbb := hidden hbb
  go_enter Try.func41, Try.ntmps41
  go_wp2_with fail
  refine hi.out.mono ?_
  rintro e w1 ⟨i, rfl, hd, g⟩
  rw [hbb.out] at hd
  cases bb with
  | true =>
    have h0 : 0 ≤ i := by simpa using hd
    clear hd
    go_wp2_with fail
    go_ret
    exact ⟨ret_bool (by simp; try omega), g⟩
  | false =>
    have h0 : ¬ 0 ≤ i := by simpa using hd
    clear hd
    go_wp2_with fail
    go_ret
    exact ⟨ret_bool (by simp; try omega), g⟩
end Go.Proofs.Ytjfdmhdmadnkoaa
