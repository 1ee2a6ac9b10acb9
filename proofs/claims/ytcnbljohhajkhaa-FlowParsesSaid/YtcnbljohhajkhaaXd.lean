/- Layer 18, the reference: leaves. -/
import Derived.Test.YtcnbljohhajkhaaXb
import Derived.Test.YtcnbljohhajkhaaXc
namespace Go.Proofs.Ytcnbljohhajkhaa
open Go.RowKit
set_option linter.unusedVariables false
set_option linter.unusedSimpArgs false
attribute [local go_sem ↓] Go.wp_at_zero Go.wp_at_succ

def rv : List Nat → List Int
  | [] => []
  | a :: s => rv s ++ [(a : Int)]
theorem rv_len (s : List Nat) : (rv s).length = s.length := by
  induction s with
  | nil => rfl
  | cons a s ih => simp [rv, ih]
theorem OwnI.at {w : World} {B g n c : Nat} {l : List Int} (h : OwnI w B (.slice (some ⟨g, 0, none⟩) n c) l) (k : Nat) (hk : k < l.length) : w.cell? ⟨g, k, none⟩ = some (.int .i64 (l.getD k 0)) := by
  have hn : l.length = n := by obtain ⟨a, c', e, -⟩ := own_shape h; simp only [Value.slice.injEq] at e; exact e.2.1.symm
  unfold OwnI at h
  rw [hn] at h
  refine own_cell h k _ ?_
  rw [List.getElem?_map, List.getElem?_eq_getElem hk]
  simp [List.getD, hk]
theorem OwnI.shape {w : World} {B : Nat} {v : Value} {l : List Int} (h : OwnI w B v l) (n : Nat) (hn : l.length = n) : ∃ a cap, v = .slice a n cap ∧ (0 < n → ∃ g, a = some ⟨g, 0, none⟩ ∧ B ≤ g ∧ g < w.heap.size) := by
  subst hn
  obtain ⟨a, c', e, -, -, h2⟩ := own_shape h
  exact ⟨a, c', e, h2⟩
theorem OwnI.fz {w : World} {B g n c : Nat} {l : List Int} (h : OwnI w B (.slice (some ⟨g, 0, none⟩) n c) l) (k : Nat) : w.frozen? ⟨g, k, none⟩ = false := by
  have hn : l.length = n := by obtain ⟨a, c', e, -⟩ := own_shape h; simp only [Value.slice.injEq] at e; exact e.2.1.symm
  unfold OwnI at h
  rw [hn] at h
  exact World.ownsRow.frozenAt h _
/-- The state of the loop. -/
structure LV (w wr : World) (B : Nat) (vP vl : Value) (n i : Nat) (P : List Int) (ls : List Nat) : Prop where
  chg : Chg vP.ownBlock.toList w wr
  o : OwnI wr B vP P
  l : OwnI wr w.heap.size vl (rv ls)
  lt : ∀ k, vP.ownBlock = some k → k < w.heap.size
  len : P.length = n
  bd : ∀ a ∈ ls, a < i
  dp : ls.length ≤ i
theorem LV.bump {w wr : World} {B : Nat} {vP vl : Value} {n i : Nat} {P : List Int} {ls : List Nat} (h : LV w wr B vP vl n i P ls) : LV w wr B vP vl n (i + 1) P ls :=
  ⟨h.chg, h.o, h.l, h.lt, h.len, fun a ha => by have := h.bd a ha; omega, by have := h.dp; omega⟩
theorem LV.push {w W w4 : World} {B : Nat} {vP vl vl' : Value} {n i : Nat} {P : List Int} {ls : List Nat} {o1 : Obj} (h : LV w W B vP vl n i P ls)
    (hl : OwnI w4 w.heap.size vl' (rv ls ++ [(i : Int)])) (g1 : (W.alloc o1).grownBy w4 vl.ownBlock) : LV w w4 B vP vl' n (i + 1) P (i :: ls) := by
  have c1 : Chg vl.ownBlock.toList W w4 := (Chg.of_ext _ ((Ext.refl W).alloc o1)).grown g1 (fun k hk => Or.inl (by simp [hk]))
  have lp : ∀ k, vl.ownBlock = some k → w.heap.size ≤ k := fun k e => (own_lt h.l e).1
  exact ⟨(h.chg.alloc o1).grown g1 (fun k hk => Or.inr (lp k hk)), own_chg h.o c1 (fun k hk e => by simp at hk; have := lp k hk; have := h.lt k e; omega), hl, h.lt, h.len, fun a ha => by
    rcases List.mem_cons.1 ha with rfl | ha
    · omega
    · have := h.bd a ha; omega, by have := h.dp; simp; omega⟩
theorem LV.pop {w W : World} {B : Nat} {vP : Value} {n i g m c a : Nat} {P : List Int} {s : List Nat} (h : LV w W B vP (.slice (some ⟨g, 0, none⟩) (m + 1) c) n i P (a :: s)) (hm : s.length = m) : LV w W B vP (.slice (some ⟨g, 0, none⟩) m c) n (i + 1) P s := by
  have hl := h.l
  unfold OwnI at hl
  simp only [rv, List.length_append, List.map_append, List.map_cons, List.map_nil, List.length_singleton, rv_len, hm] at hl
  refine ⟨h.chg, h.o, ?_, h.lt, h.len, fun z hz => by have := h.bd z (List.mem_cons_of_mem _ hz); omega, by have := h.dp; simp at this; omega⟩
  unfold OwnI
  rw [rv_len, hm]
  exact own_pop hl
theorem LV.put {w W : World} {B : Nat} {vl : Value} {n i g m c : Nat} {P : List Int} {s : List Nat} (h : LV w W B (.slice (some ⟨g, 0, none⟩) m c) vl n i P s) (j : Nat) (x : Int) : LV w (W.setCell ⟨g, j, none⟩ (.int .i64 x)) B (.slice (some ⟨g, 0, none⟩) m c) vl n i (P.set j x) s := by
  have c1 : Chg [g] W (W.setCell ⟨g, j, none⟩ (.int .i64 x)) := (Chg.refl _ W).setCell (Or.inl (by simp)) _
  have hg := h.lt g rfl
  exact ⟨h.chg.trans c1 (fun k hk => by simp at hk; subst hk; exact Or.inl (by simp [Value.ownBlock])), h.o.set j x, own_chg h.l c1 (fun k hk e => by simp at hk; subst hk; have := (own_lt h.l e).1; omega), h.lt, by rw [List.length_set]; exact h.len, h.bd, h.dp⟩

set_option maxHeartbeats 4000000 in
set_option maxRecDepth 100000 in
theorem leaves_any (vc vP : Value) (C : List (Int × Int)) (P P' : List Int) (w : World) (B : Nat) (h : Code18 w vc C) (hC : C.length ≤ 1024) (ho : OwnI w B vP P) (hl : P.length = C.length)
    (hoff : ∀ k, vP.ownBlock = some k → 0 < C.length → vc.ownBlock ≠ some k) (hR : lvR C C.length 0 [] P = some P') :
    Calls Try.prog 37 #[vc, vP] w fun x w' => x = .returned vP ∧ OwnI w' B vP P' ∧ Chg vP.ownBlock.toList w w' := by
  have hV0 : LV w w B vP (.slice none 0 0) C.length 0 P [] := ⟨Chg.refl _ _, ho, OwnI.nil' _ _, fun k e => (own_lt ho e).2, hl, by simp, by simp⟩
  obtain ⟨n, hn⟩ : ∃ n, C.length = n := ⟨_, rfl⟩
  obtain ⟨a, cap, rfl, hcap, hcap2, -⟩ := Rd.shape h
  obtain ⟨aP, cP, rfl, hP0⟩ := ho.shape C.length hl
  have hCd : Hid (∀ W, Chg (Value.slice aP C.length cP).ownBlock.toList w W → Code18 W (.slice a C.length cap) C) := hidden fun W c => h.chg c (fun x hx hn e => hoff x (by simpa using hx) hn e)
  rw [hn] at hCd hV0 hR hcap hC hP0 ⊢
  replace hn := hidden hn
  replace hR := hidden hR
  obtain ⟨i1, hi, hz0, hz1, hz2⟩ := info_parts intinfo
  have hia := hidden hi
  clear h hi ho hoff hl
  go_enter Try.func37, Try.ntmps37
  go_wp2_with fail
  go_loopw [5, 6] (fun vl ix wr => ∃ (k : Nat) (ls : List Nat) (Px : List Int), k ≤ n ∧ ix = .int .i64 (k : Int) ∧ Hid (LV w wr B (.slice aP n cP) vl n k Px ls) ∧ Hid (lvR C (n - k) k ls Px = some P')) (fun _ ix _ => (n - intOf ix).toNat)
  case atStart => exact ⟨0, [], P, by omega, rfl, hV0, hR⟩
  case round =>
    obtain ⟨k, ls, Px, hk, rfl, hV, hE⟩ := hrel
    obtain ⟨W, hWW⟩ : ∃ Z, Z = wr := ⟨_, rfl⟩
    subst hWW
    by_cases hlt : k < n
    · have hlt' : (k : Int) < (n : Int) := by omega
      obtain ⟨gP, rfl, hg1, hg2⟩ := hP0 (by omega)
      have hcode := hCd.out W hV.out.chg
      obtain ⟨b, off, rfl, -, -⟩ := Rd.cells (cs := C.flatMap icell) (w := W) (sz := 2) (by have := hcode; unfold Code18 at this; rw [hn.out] at this; exact this) (show 0 < n by omega)
      obtain ⟨x0, -⟩ := code_at hcode k (by rw [hn.out]; exact hlt)
      replace hcode := hidden hcode
      have hkw : IntKind.i64.wrap ((k : Int) + 1) = (k : Int) + 1 := IntWalk.i64_in _ (by omega)
      have hEq : Hid (n - k = (n - (k + 1)) + 1) := by show _ = _; omega
      rw [hEq.out] at hE
      obtain ⟨u, hu⟩ : ∃ u, opAt C k = u := ⟨_, rfl⟩
      rw [hu] at x0
      have hlen := hV.out.len
      by_cases h29 : u = 29
      · subst h29
        have hE1 : Hid (lvR C (n - (k + 1)) (k + 1) (k :: ls) Px = some P') := by show _ = _; rw [← lvR_loop C _ k ls Px hu]; exact hE.out
        replace hu := hidden hu
        replace hlen := hidden hlen
        have hdp := hV.out.dp
        obtain ⟨al, cl, rfl, -⟩ := hV.out.l.shape ls.length (rv_len ls)
        have HO := hidden (show (W.alloc (.cells #[.int .i64 (k : Int)] 3)).ownsRow w.heap.size 3 1 (.slice al ls.length cl) ls.length ((rv ls).map (Value.int .i64)) by have := hV.out.l; unfold OwnI at this; rw [rv_len] at this; exact own_ext this ((Ext.refl W).alloc _))
        have hnw : Rd (W.alloc (.cells #[.int .i64 (k : Int)] 3)) 1 (.slice (some ⟨W.heap.size, 0, none⟩) 1 1) 1 [.int .i64 (k : Int)] := by
          have hb := Blk.new W [.int .i64 (k : Int)] 3
          refine ⟨rfl, _, _, rfl, Nat.le_refl _, by decide, by simp, fun _ => ⟨_, _, rfl, by simp, fun j hj => ?_⟩⟩
          match j, hj with
          | 0, _ => exact hb.cell 0 _ rfl
        replace hnw := hidden hnw
        have hws := hV.out.chg.size
        obtain ⟨L, hL⟩ : ∃ L, ls.length = L := ⟨_, rfl⟩
        have hV' := hV
        rw [hL] at HO hdp hV' ⊢
        replace hL := hidden hL
        clear hV
        go_wp2_with (at_builtin; refine wpList_append_rd (by rfl) _ _ 32 (by rfl) w.heap.size 3 i1 (.int .i64 0) 1 8 Try.underlying32 hia.out hz0 hz1 hz2 rfl (by decide) (.slice al L cl) L ((rv ls).map (Value.int .i64)) (by rfl) HO.out (some ⟨W.heap.size, 0, none⟩) 1 1 [.int .i64 (k : Int)] (by rfl) hnw.out (by simp [Value.oneCell']) (by unfold maxLen; omega) (by omega) (by simp; omega) ?_; intro v' w4 hown4 hgrow4 hat4)
        have hO2 : OwnI w4 w.heap.size v' (rv ls ++ [(k : Int)]) := by
          unfold OwnI
          rw [List.length_append, List.map_append, rv_len, hL.out]
          exact hown4
        go_roundw
        case rel => exact ⟨k + 1, k :: ls, Px, by omega, by go_num, hV'.out.push hO2 hgrow4, hE1⟩
        case measure => simp [intOf] <;> omega
      · have hq29 : (u == 29) = false := by simp; exact h29
        by_cases h31 : u = 31
        · subst h31
          obtain ⟨x, hx⟩ : ∃ x, Px.getD k 0 = x := ⟨_, rfl⟩
          have y0 := OwnI.at hV.out.o k (by omega)
          rw [hx] at y0
          have hE2 := hE.out
          rw [lvR_eq, if_neg (by omega), if_pos hu, hx, hn.out] at hE2
          replace hu := hidden hu
          replace hlen := hidden hlen
          replace hx := hidden hx
          clear hE
          split at hE2
          rotate_left
          · cases hE2
          next hrx =>
          obtain ⟨j, rfl⟩ : ∃ j : Nat, x = (j : Int) := ⟨x.toNat, by omega⟩
          have hjn : j < n := by omega
          obtain ⟨z0, -⟩ := code_at hcode.out j (by rw [hn.out]; exact hjn)
          rw [Int.toNat_natCast] at hE2
          obtain ⟨z, hz⟩ : ∃ z, opAt C j = z := ⟨_, rfl⟩
          rw [hz] at z0 hE2
          replace hz := hidden hz
          by_cases hz29 : z = 29
          · subst hz29
            rw [if_pos rfl] at hE2
            match ls, hE2, hV with
            | [], hE2, _ => cases hE2
            | a :: s, hE2, hV =>
            simp only at hE2
            replace hE2 := hidden hE2
            obtain ⟨m, hm⟩ : ∃ m, s.length = m := ⟨_, rfl⟩
            have hdp := hV.out.dp
            obtain ⟨al, cl, rfl, hal⟩ := hV.out.l.shape (m + 1) (by rw [rv_len]; simp [hm])
            obtain ⟨gl, rfl, hg3, hg4⟩ := hal (by omega)
            simp only [List.length_cons, hm] at hdp
            have hV' := hidden (hV.out.pop hm)
            have hcc : m + 1 ≤ cl := by have := hV.out.l.rd; unfold RdI at this; rw [rv_len, List.length_cons, hm] at this; exact Rd.cap this
            obtain ⟨L, hL⟩ : ∃ L, m + 1 = L := ⟨_, rfl⟩
            rw [hL] at hcc hdp ⊢
            have hsu := Try.underlying32
            have hel : Try.prog.elem 32 = 3 := by unfold Program.elem; rw [hsu]
            have ht : Try.prog.underlying 32 = some (.slice (Try.prog.elem 32)) := by rw [hel]; exact hsu
            have hch : ∀ w1, (Instr.sliceAt 32 (.slice (some ⟨gl, 0, none⟩) L cl) none (some (.int .i64 (m : Int))) none).run Try.prog w1 = .ok (.slice (some ⟨gl, 0, none⟩) m cl) w1 := fun w1 => by
              rw [run_sliceAt_slice w1 _ _ _ _ _ ht, run_slice_h w1 _ _ _ _ ht _ _ (by omega) (by omega), hel, Try.sizeOf3]
              simp [sliced, Addr.add, Result.andThen, show cl ≠ 0 by omega]
            have hlw : IntKind.i64.wrap ((L : Int) - 1) = (m : Int) := by rw [IntWalk.i64_in _ (by omega)]; omega
            replace hL := hidden hL
            replace hm := hidden hm
            clear hV hsu hel ht
            go_wp2_with fail
            go_roundw
            case rel => exact ⟨k + 1, s, Px, by omega, by go_num, hV', hE2⟩
            case measure => simp [intOf] <;> omega
          · have hqz : (z == 29) = false := by simp; exact hz29
            rw [if_neg hz29] at hE2
            replace hE2 := hidden hE2
            go_wp2_with fail
            go_roundw
            case rel => exact ⟨k + 1, ls, Px, by omega, by go_num, hV.out.bump, hE2⟩
            case measure => simp [intOf] <;> omega
        · have hq31 : (u == 31) = false := by simp; exact h31
          by_cases h30 : u = 30
          · subst h30
            have hE2 := hE.out
            match ls, hE2, hV with
            | [], hE2, _ => rw [lvR_eq, if_neg (by omega), if_neg (by omega), if_pos hu] at hE2; cases hE2
            | a :: s, hE2, hV =>
            rw [lvR_leave _ _ _ _ _ _ hu] at hE2
            obtain ⟨m, hm⟩ : ∃ m, s.length = m := ⟨_, rfl⟩
            have hdp := hV.out.dp
            obtain ⟨al, cl, rfl, hal⟩ := hV.out.l.shape (m + 1) (by rw [rv_len]; simp [hm])
            obtain ⟨gl, rfl, hg3, hg4⟩ := hal (by omega)
            simp only [List.length_cons, hm] at hdp
            have hab := hV.out.bd a List.mem_cons_self
            have y0 := OwnI.at hV.out.l m (by rw [rv_len]; simp [hm])
            rw [show (rv (a :: s)).getD m 0 = (a : Int) from getD_mid (by rw [rv_len, hm])] at y0
            have y1 := OwnI.at hV.out.o a (by omega)
            obtain ⟨x, hx⟩ : ∃ x, Px.getD a 0 = x := ⟨_, rfl⟩
            rw [hx] at hE2 y1
            have y2 := OwnI.at hV.out.o k (by omega)
            have yf := OwnI.fz hV.out.o k
            have hV' := hidden ((hV.out.put k x).bump)
            obtain ⟨L, hL⟩ : ∃ L, m + 1 = L := ⟨_, rfl⟩
            rw [hL] at hdp hV' ⊢
            have hlw : IntKind.i64.wrap ((L : Int) - 1) = (m : Int) := by rw [IntWalk.i64_in _ (by omega)]; omega
            have hmL : (m : Int) < (L : Int) := by omega
            have hmL0 : m < L := by omega
            have haI : (a : Int) < (n : Int) := by omega
            have haN : a < n := by omega
            replace hE2 := hidden hE2
            replace hx := hidden hx
            replace hL := hidden hL
            replace hm := hidden hm
            replace hu := hidden hu
            replace hlen := hidden hlen
            clear hV hE
            go_wp2_with fail
            go_roundw
            case rel => exact ⟨k + 1, a :: s, _, by omega, by go_num, hV', hE2⟩
            case measure => simp [intOf] <;> omega
          · have hq30 : (u == 30) = false := by simp; exact h30
            have hE1 : Hid (lvR C (n - (k + 1)) (k + 1) ls Px = some P') := by show _ = _; rw [← lvR_op C _ k ls Px (by rw [hu]; exact h29) (by rw [hu]; exact h31) (by rw [hu]; exact h30)]; exact hE.out
            replace hu := hidden hu
            replace hlen := hidden hlen
            go_wp2_with fail
            go_roundw
            case rel => exact ⟨k + 1, ls, Px, by omega, by go_num, hV.out.bump, hE1⟩
            case measure => simp [intOf] <;> omega
    · obtain rfl : k = n := by omega
      go_wp2_with fail
      go_ret
      rw [Nat.sub_self] at hE
      have e : Px = P' := by have := hE.out; unfold lvR at this; injection this
      exact ⟨rfl, by rw [← e]; exact hV.out.o, hV.out.chg⟩
end Go.Proofs.Ytcnbljohhajkhaa
