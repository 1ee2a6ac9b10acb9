
import Derived.Test.YtgjjklajipekdaaGreatWo
import Derived.Test.YtgjjklajipekdaaGreatXc
import Derived.Test.YtgjjklajipekdaaGreatWg
import Derived.Deep.QuietTactic
import Derived.BigQuiet
import Derived.Test.YtgjjklajipekdaaGreatWv
namespace Go.Proofs.YtgjjklajipekdaaGreat
set_option maxHeartbeats 16000000
set_option maxRecDepth 100000
open Go.RowKit
set_option linter.unusedVariables false
set_option linter.unusedSimpArgs false
attribute [local go_sem ↓] Go.wp_at_zero Go.wp_at_succ
def rv : List Nat → List Int
  | [] => []
  | a :: s => rv s ++ [(a : Int)]
theorem rv_len (s : List Nat) : (rv s).length = s.length := by
  induction s with
  | nil => rfl
  | cons a s ih => simp [rv, ih]
theorem OwnI.at {w : World} {B g n c : Nat} {l : List Int} (h : OwnI w B (.slice (some ⟨g, 0, none⟩) n c) l) (k : Nat) (hk : k < l.length) : w.cell? ⟨g, k, none⟩ = some (.int .i64 (l.getD k 0)) := by
  have hn : l.length = n := by obtain ⟨a, c', e, -⟩ := own_shape h; simp only [Value.slice.injEq] at e; exact e.2.1.symm
  unfold OwnI at h
  rw [hn] at h
  refine own_cell h k _ ?_
  rw [List.getElem?_map, List.getElem?_eq_getElem hk]
  simp [List.getD, hk]
theorem OwnI.shape {w : World} {B : Nat} {v : Value} {l : List Int} (h : OwnI w B v l) (n : Nat) (hn : l.length = n) : ∃ a cap, v = .slice a n cap ∧ (0 < n → ∃ g, a = some ⟨g, 0, none⟩ ∧ B ≤ g ∧ g < w.heap.size) := by
  subst hn
  obtain ⟨a, c', e, -, -, h2⟩ := own_shape h
  exact ⟨a, c', e, h2⟩
theorem OwnI.fz {w : World} {B g n c : Nat} {l : List Int} (h : OwnI w B (.slice (some ⟨g, 0, none⟩) n c) l) (k : Nat) : w.frozen? ⟨g, k, none⟩ = false := by
  have hn : l.length = n := by obtain ⟨a, c', e, -⟩ := own_shape h; simp only [Value.slice.injEq] at e; exact e.2.1.symm
  unfold OwnI at h
  rw [hn] at h
  exact World.ownsRow.frozenAt h _
structure LV (w wr : World) (B : Nat) (vP vl : Value) (n i : Nat) (P : List Int) (ls : List Nat) : Prop where
  chg : Chg vP.ownBlock.toList w wr
  o : OwnI wr B vP P
  l : OwnI wr w.heap.size vl (rv ls)
  lt : ∀ k, vP.ownBlock = some k → k < w.heap.size
  len : P.length = n
  bd : ∀ a ∈ ls, a < i
  dp : ls.length ≤ i
theorem LV.bump {w wr : World} {B : Nat} {vP vl : Value} {n i : Nat} {P : List Int} {ls : List Nat} (h : LV w wr B vP vl n i P ls) : LV w wr B vP vl n (i + 1) P ls :=
  ⟨h.chg, h.o, h.l, h.lt, h.len, fun a ha => by have := h.bd a ha; omega, by have := h.dp; omega⟩
theorem LV.push {w W w4 : World} {B : Nat} {vP vl vl' : Value} {n i : Nat} {P : List Int} {ls : List Nat} {o1 : Obj} (h : LV w W B vP vl n i P ls)
    (hl : OwnI w4 w.heap.size vl' (rv ls ++ [(i : Int)])) (g1 : (W.alloc o1).grownBy w4 vl.ownBlock) : LV w w4 B vP vl' n (i + 1) P (i :: ls) := by
  have c1 : Chg vl.ownBlock.toList W w4 := (Chg.of_ext _ ((Ext.refl W).alloc o1)).grown g1 (fun k hk => Or.inl (by simp [hk]))
  have lp : ∀ k, vl.ownBlock = some k → w.heap.size ≤ k := fun k e => (own_lt h.l e).1
  exact ⟨(h.chg.alloc o1).grown g1 (fun k hk => Or.inr (lp k hk)), own_chg h.o c1 (fun k hk e => by simp at hk; have := lp k hk; have := h.lt k e; omega), hl, h.lt, h.len, fun a ha => by
    rcases List.mem_cons.1 ha with rfl | ha
    · omega
    · have := h.bd a ha; omega, by have := h.dp; simp; omega⟩
theorem LV.pop {w W : World} {B : Nat} {vP : Value} {n i g m c a : Nat} {P : List Int} {s : List Nat} (h : LV w W B vP (.slice (some ⟨g, 0, none⟩) (m + 1) c) n i P (a :: s)) (hm : s.length = m) : LV w W B vP (.slice (some ⟨g, 0, none⟩) m c) n (i + 1) P s := by
  have hl := h.l
  unfold OwnI at hl
  simp only [rv, List.length_append, List.map_append, List.map_cons, List.map_nil, List.length_singleton, rv_len, hm] at hl
  refine ⟨h.chg, h.o, ?_, h.lt, h.len, fun z hz => by have := h.bd z (List.mem_cons_of_mem _ hz); omega, by have := h.dp; simp at this; omega⟩
  unfold OwnI
  rw [rv_len, hm]
  exact own_pop hl
theorem LV.put {w W : World} {B : Nat} {vl : Value} {n i g m c : Nat} {P : List Int} {s : List Nat} (h : LV w W B (.slice (some ⟨g, 0, none⟩) m c) vl n i P s) (j : Nat) (x : Int) : LV w (W.setCell ⟨g, j, none⟩ (.int .i64 x)) B (.slice (some ⟨g, 0, none⟩) m c) vl n i (P.set j x) s := by
  have c1 : Chg [g] W (W.setCell ⟨g, j, none⟩ (.int .i64 x)) := (Chg.refl _ W).setCell (Or.inl (by simp)) _
  have hg := h.lt g rfl
  exact ⟨h.chg.trans c1 (fun k hk => by simp at hk; subst hk; exact Or.inl (by simp [Value.ownBlock])), h.o.set j x, own_chg h.l c1 (fun k hk e => by simp at hk; subst hk; have := (own_lt h.l e).1; omega), h.lt, by rw [List.length_set]; exact h.len, h.bd, h.dp⟩
theorem leaves_any (vc vP : Value) (C : List (Int × Int)) (P P' : List Int) (w : World) (B : Nat) (h : Code18 w vc C) (hC : C.length ≤ 1024) (ho : OwnI w B vP P) (hl : P.length = C.length)
    (hoff : ∀ k, vP.ownBlock = some k → 0 < C.length → vc.ownBlock ≠ some k) (hR : lvR C C.length 0 [] P = some P') :
    Calls Tryz.prog 76 #[vc, vP] w fun x w' => x = .returned vP ∧ OwnI w' B vP P' ∧ Chg vP.ownBlock.toList w w' := by
  have hV0 : LV w w B vP (.slice none 0 0) C.length 0 P [] := ⟨Chg.refl _ _, ho, OwnI.nil' _ _, fun k e => (own_lt ho e).2, hl, by simp, by simp⟩
  obtain ⟨n, hn⟩ := ex C.length
  obtain ⟨a, cap, rfl, hcap, hcap2, -⟩ := Rd.shape h
  obtain ⟨aP, cP, rfl, hP0⟩ := ho.shape C.length hl
  have hCd : Hid (∀ W, Chg (Value.slice aP C.length cP).ownBlock.toList w W → Code18 W (.slice a C.length cap) C) := hidden fun W c => h.chg c (fun x hx hn e => hoff x (by simpa using hx) hn e)
  rw [hn] at hCd hV0 hR hcap hC hP0 ⊢
  replace hn := hidden hn
  replace hR := hidden hR
  obtain ⟨i1, hi, hz0, hz1, hz2⟩ := info_parts intinfo
  have hia := hidden hi
  clear h hi ho hoff hl
  go_enter Tryz.func76, Tryz.ntmps76
  go_wp2_with fail
  go_loopw [5, 6] (fun vl ix wr => ∃ (k : Nat) (ls : List Nat) (Px : List Int), k ≤ n ∧ ix = .int .i64 (k : Int) ∧ Hid (LV w wr B (.slice aP n cP) vl n k Px ls) ∧ Hid (lvR C (n - k) k ls Px = some P')) (fun _ ix _ => (n - intOf ix).toNat)
  case atStart => exact ⟨0, [], P, by omega, rfl, hV0, hR⟩
  case round =>
    obtain ⟨k, ls, Px, hk, rfl, hV, hE⟩ := hrel
    obtain ⟨W, hWW⟩ : ∃ Z, Z = wr := ⟨_, rfl⟩
    subst hWW
    by_cases hlt : k < n
    · have hlt' : (k : Int) < (n : Int) := by omega
      obtain ⟨gP, rfl, hg1, hg2⟩ := hP0 (by omega)
      have hcode := hCd.out W hV.out.chg
      obtain ⟨b, off, rfl, -, -⟩ := Rd.cells (cs := C.flatMap icell) (w := W) (sz := 2) (by have := hcode; unfold Code18 at this; rw [hn.out] at this; exact this) (show 0 < n by omega)
      obtain ⟨x0, -⟩ := code_at hcode k (by rw [hn.out]; exact hlt)
      replace hcode := hidden hcode
      have hkw : IntKind.i64.wrap ((k : Int) + 1) = (k : Int) + 1 := IntWalk.i64_in _ (by omega)
      have hEq : Hid (n - k = (n - (k + 1)) + 1) := by show _ = _; omega
      rw [hEq.out] at hE
      obtain ⟨u, hu⟩ := ex (opAtFl C k)
      rw [hu] at x0
      have hlen := hV.out.len
      by_cases h29 : u = 29
      · subst h29
        have hE1 : Hid (lvR C (n - (k + 1)) (k + 1) (k :: ls) Px = some P') := by show _ = _; rw [← lvR_loop C _ k ls Px hu]; exact hE.out
        replace hu := hidden hu
        replace hlen := hidden hlen
        have hdp := hV.out.dp
        obtain ⟨al, cl, rfl, -⟩ := hV.out.l.shape ls.length (rv_len ls)
        have HO := hidden (show (W.alloc (.cells #[.int .i64 (k : Int)] 3)).ownsRow w.heap.size 3 1 (.slice al ls.length cl) ls.length ((rv ls).map (Value.int .i64)) by have := hV.out.l; unfold OwnI at this; rw [rv_len] at this; exact own_ext this ((Ext.refl W).alloc _))
        have hnw : Rd (W.alloc (.cells #[.int .i64 (k : Int)] 3)) 1 (.slice (some ⟨W.heap.size, 0, none⟩) 1 1) 1 [.int .i64 (k : Int)] := by
          have hb := Blk.new W [.int .i64 (k : Int)] 3
          refine ⟨rfl, _, _, rfl, Nat.le_refl _, by decide, by simp, fun _ => ⟨_, _, rfl, by simp, fun j hj => ?_⟩⟩
          match j, hj with
          | 0, _ => exact hb.cell 0 _ rfl
        replace hnw := hidden hnw
        have hws := hV.out.chg.size
        obtain ⟨L, hL⟩ := ex ls.length
        have hV' := hV
        rw [hL] at HO hdp hV' ⊢
        replace hL := hidden hL
        clear hV
        go_wp2_with (at_builtin; refine wpList_append_rd (by rfl) _ _ 78 (by rfl) w.heap.size 3 i1 (.int .i64 0) 1 8 Tryz.underlying78 hia.out hz0 hz1 hz2 rfl (by decide) (.slice al L cl) L ((rv ls).map (Value.int .i64)) (by rfl) HO.out (some ⟨W.heap.size, 0, none⟩) 1 1 [.int .i64 (k : Int)] (by rfl) hnw.out (by simp [Value.oneCell']) (by unfold maxLen; omega) (by omega) (by simp; omega) ?_; intro v' w4 hown4 hgrow4 hat4)
        have hO2 : OwnI w4 w.heap.size v' (rv ls ++ [(k : Int)]) := by
          unfold OwnI
          rw [List.length_append, List.map_append, rv_len, hL.out]
          exact hown4
        go_roundw
        case rel => exact ⟨k + 1, k :: ls, Px, by omega, by go_num, hV'.out.push hO2 hgrow4, hE1⟩
        case measure => simp [intOf] <;> omega
      · have hq29 : (u == 29) = false := by simp; exact h29
        by_cases h31 : u = 31
        · subst h31
          obtain ⟨x, hx⟩ := ex (Px.getD k 0)
          have y0 := OwnI.at hV.out.o k (by omega)
          rw [hx] at y0
          have hE2 := hE.out
          rw [lvR_eq, if_neg (by omega), if_pos hu, hx, hn.out] at hE2
          replace hu := hidden hu
          replace hlen := hidden hlen
          replace hx := hidden hx
          clear hE
          split at hE2
          rotate_left
          · cases hE2
          next hrx =>
          obtain ⟨j, rfl⟩ : ∃ j : Nat, x = (j : Int) := ⟨x.toNat, by omega⟩
          have hjn : j < n := by omega
          obtain ⟨z0, -⟩ := code_at hcode.out j (by rw [hn.out]; exact hjn)
          rw [Int.toNat_natCast] at hE2
          obtain ⟨z, hz⟩ := ex (opAtFl C j)
          rw [hz] at z0 hE2
          replace hz := hidden hz
          by_cases hz29 : z = 29
          · subst hz29
            rw [if_pos rfl] at hE2
            match ls, hE2, hV with
            | [], hE2, _ => cases hE2
            | a :: s, hE2, hV =>
            simp only at hE2
            replace hE2 := hidden hE2
            obtain ⟨m, hm⟩ := ex s.length
            have hdp := hV.out.dp
            obtain ⟨al, cl, rfl, hal⟩ := hV.out.l.shape (m + 1) (by rw [rv_len]; simp [hm])
            obtain ⟨gl, rfl, hg3, hg4⟩ := hal (by omega)
            simp only [List.length_cons, hm] at hdp
            have hV' := hidden (hV.out.pop hm)
            have hcc : m + 1 ≤ cl := by have := hV.out.l.rd; unfold RdI at this; rw [rv_len, List.length_cons, hm] at this; exact Rd.cap this
            obtain ⟨L, hL⟩ := ex (m + 1)
            rw [hL] at hcc hdp ⊢
            have hsu := Tryz.underlying78
            have hel : Tryz.prog.elem 78 = 3 := by unfold Program.elem; rw [hsu]
            have ht : Tryz.prog.underlying 78 = some (.slice (Tryz.prog.elem 78)) := by rw [hel]; exact hsu
            have hch : ∀ w1, (Instr.sliceAt 78 (.slice (some ⟨gl, 0, none⟩) L cl) none (some (.int .i64 (m : Int))) none).run Tryz.prog w1 = .ok (.slice (some ⟨gl, 0, none⟩) m cl) w1 := fun w1 => by
              rw [run_sliceAt_slice w1 _ _ _ _ _ ht, run_slice_h w1 _ _ _ _ ht _ _ (by omega) (by omega), hel, Tryz.sizeOf3]
              simp [sliced, Addr.add, Result.andThen, show cl ≠ 0 by omega]
            have hlw : IntKind.i64.wrap ((L : Int) - 1) = (m : Int) := by rw [IntWalk.i64_in _ (by omega)]; omega
            replace hL := hidden hL
            replace hm := hidden hm
            clear hV hsu hel ht
            go_wp2_with fail
            go_roundw
            case rel => exact ⟨k + 1, s, Px, by omega, by go_num, hV', hE2⟩
            case measure => simp [intOf] <;> omega
          · have hqz : (z == 29) = false := by simp; exact hz29
            rw [if_neg hz29] at hE2
            replace hE2 := hidden hE2
            go_wp2_with fail
            go_roundw
            case rel => exact ⟨k + 1, ls, Px, by omega, by go_num, hV.out.bump, hE2⟩
            case measure => simp [intOf] <;> omega
        · have hq31 : (u == 31) = false := by simp; exact h31
          by_cases h30 : u = 30
          · subst h30
            have hE2 := hE.out
            match ls, hE2, hV with
            | [], hE2, _ => rw [lvR_eq, if_neg (by omega), if_neg (by omega), if_pos hu] at hE2; cases hE2
            | a :: s, hE2, hV =>
            rw [lvR_leave _ _ _ _ _ _ hu] at hE2
            obtain ⟨m, hm⟩ := ex s.length
            have hdp := hV.out.dp
            obtain ⟨al, cl, rfl, hal⟩ := hV.out.l.shape (m + 1) (by rw [rv_len]; simp [hm])
            obtain ⟨gl, rfl, hg3, hg4⟩ := hal (by omega)
            simp only [List.length_cons, hm] at hdp
            have hab := hV.out.bd a List.mem_cons_self
            have y0 := OwnI.at hV.out.l m (by rw [rv_len]; simp [hm])
            rw [show (rv (a :: s)).getD m 0 = (a : Int) from getD_mid (by rw [rv_len, hm])] at y0
            have y1 := OwnI.at hV.out.o a (by omega)
            obtain ⟨x, hx⟩ := ex (Px.getD a 0)
            rw [hx] at hE2 y1
            have y2 := OwnI.at hV.out.o k (by omega)
            have yf := OwnI.fz hV.out.o k
            have hV' := hidden ((hV.out.put k x).bump)
            obtain ⟨L, hL⟩ := ex (m + 1)
            rw [hL] at hdp hV' ⊢
            have hlw : IntKind.i64.wrap ((L : Int) - 1) = (m : Int) := by rw [IntWalk.i64_in _ (by omega)]; omega
            have hmL : (m : Int) < (L : Int) := by omega
            have hmL0 : m < L := by omega
            have haI : (a : Int) < (n : Int) := by omega
            have haN : a < n := by omega
            replace hE2 := hidden hE2
            replace hx := hidden hx
            replace hL := hidden hL
            replace hm := hidden hm
            replace hu := hidden hu
            replace hlen := hidden hlen
            clear hV hE
            go_wp2_with fail
            go_roundw
            case rel => exact ⟨k + 1, a :: s, _, by omega, by go_num, hV', hE2⟩
            case measure => simp [intOf] <;> omega
          · have hq30 : (u == 30) = false := by simp; exact h30
            have hE1 : Hid (lvR C (n - (k + 1)) (k + 1) ls Px = some P') := by show _ = _; rw [← lvR_op C _ k ls Px (by rw [hu]; exact h29) (by rw [hu]; exact h31) (by rw [hu]; exact h30)]; exact hE.out
            replace hu := hidden hu
            replace hlen := hidden hlen
            go_wp2_with fail
            go_roundw
            case rel => exact ⟨k + 1, ls, Px, by omega, by go_num, hV.out.bump, hE1⟩
            case measure => simp [intOf] <;> omega
    · obtain rfl : k = n := by omega
      go_wp2_with fail
      go_ret
      rw [Nat.sub_self] at hE
      have e : Px = P' := by have := hE.out; unfold lvR at this; injection this
      exact ⟨rfl, by rw [← e]; exact hV.out.o, hV.out.chg⟩
def ptR (C : List (Int × Int)) : List Int × Int × Int :=
  if C.length ≤ 1024 then match wholeF C with
    | .error e => ([], (e : Int), 15)
    | .ok (_, P) => (P, 0, 0)
  else ([], 0, 6)
def PtP (w : World) (C : List (Int × Int)) (x : Ending) (w' : World) : Prop := ∃ v, x = .returned (.tuple #[v, .int .i64 (ptR C).2.1, .int .i64 (ptR C).2.2]) ∧ OwnI w' w.heap.size v (ptR C).1 ∧ Ext w w'
theorem grown_size {W w4 : World} {o : Obj} {r : Option Nat} (h : (W.alloc o).grownBy w4 r) : W.heap.size ≤ w4.heap.size := by
  have h1 := ((Ext.refl W).alloc o).size
  have h2 := ((Chg.of_ext r.toList ((Ext.refl W).alloc o)).grown h (fun k hk => Or.inl (by simp [hk]))).size
  omega
theorem pt_err (C : List (Int × Int)) (hC : C.length ≤ 1024) (e : Nat) (h : runM C C.length 0 [] (List.replicate C.length 0) = .error e) : ptR C = ([], (e : Int), 15) := by
  unfold ptR
  rw [if_pos hC]
  rcases whole_law C with ⟨S, rfl, h1, h2, h3⟩ | ⟨e', h1, -, h3⟩
  · rw [h3 _ (by simp)] at h; cases h
  · rw [h3 _ (by simp)] at h; cases h; rw [h1]
theorem pt_ok (C : List (Int × Int)) (hC : C.length ≤ 1024) (o : List Int) (h : runM C C.length 0 [] (List.replicate C.length 0) = .ok o) : ∃ P', ptR C = (P', 0, 0) ∧ lvR C C.length 0 [] o = some P' := by
  unfold ptR
  rw [if_pos hC]
  rcases whole_law C with ⟨S, rfl, h1, h2, h3⟩ | ⟨e', h1, -, h3⟩
  · rw [h3 _ (by simp)] at h; cases h
    exact ⟨S.prt true 0 (-1), by rw [whole_of S h1 h2], lvR_whole S h1⟩
  · rw [h3 _ (by simp)] at h; cases h
theorem partners_any (v : Value) (C : List (Int × Int)) (w : World) (h : Code18 w v C) :
    Calls Tryz.prog 52 #[v] w (PtP w C) := by
  obtain ⟨n, hn⟩ := ex C.length
  obtain ⟨a, cap, rfl, hcap, hcap2, -⟩ := Rd.shape h
  have hCd : Hid (∀ W, Ext w W → Code18 W (.slice a C.length cap) C) := hidden fun W c => h.ext c
  have hoffc : Hid (0 < C.length → ∀ k, (Value.slice a C.length cap).ownBlock = some k → k < w.heap.size) := hidden (fun h0 k hk => h.blk_lt h0 hk)
  obtain ⟨i1, hi, hz0, hz1, hz2⟩ := info_parts intinfo
  have hia := hidden hi
  rw [hn] at hCd hcap hoffc ⊢
  clear h
  by_cases hC : n ≤ 1024
  rotate_left
  · have hgt : (1024 : Int) < (n : Int) := by omega
    have hR : Hid (ptR C = ([], 0, 6)) := by show _ = _; unfold ptR; rw [if_neg (by omega)]
    replace hn := hidden hn
    clear hi
    go_enter Tryz.func52, Tryz.ntmps52
    go_wp2_with fail
    go_ret3
    unfold PtP
    rw [hR.out]
    exact ⟨_, rfl, OwnI.nil' _ _, Ext.refl w⟩
  obtain ⟨R, hR⟩ := ex (runM C n 0 [] (List.replicate n 0))
  have hRe : Hid (∀ e : Nat, R = .error e → ptR C = ([], (e : Int), 15)) := hidden fun e h => pt_err C (by omega) e (by rw [hn, hR]; exact h)
  have hRo : Hid (∀ o, R = .ok o → ∃ P', ptR C = (P', 0, 0) ∧ lvR C n 0 [] o = some P') := hidden fun o h => by have := pt_ok C (by omega) o (by rw [hn, hR]; exact h); rw [hn] at this; exact this
  have hng : ¬ (1024 : Int) < (n : Int) := by omega
  have hnw0 : IntKind.i64.wrap (n : Int) = n := IntWalk.i64_in _ (by omega)
  have hmk1 : ∀ W, (Instr.makeSlice 78 (.int .i64 (n : Int)) (.int .i64 (n : Int))).run Tryz.prog W = .ok (.slice (some ⟨W.heap.size, 0, none⟩) n n) (W.alloc (.cells (madeCells (Value.int .i64 0).cells n) 3)) := fun W => by
    have := run_make (P := Tryz.prog) W 78 3 i1 (.int .i64 0) Tryz.underlying78 hi hz0 .i64 .i64 (n : Int) (n : Int) (by omega) (Int.le_refl _) (by rw [hz2]; omega) (by omega)
    rw [hz1, Nat.mul_one, Int.toNat_natCast] at this
    exact this
  have hown : OwnI (w.alloc (.cells (madeCells (Value.int .i64 0).cells n) 3)) w.heap.size (.slice (some ⟨w.heap.size, 0, none⟩) n n) (List.replicate n 0) := by
    unfold OwnI
    rw [List.length_replicate]
    refine ⟨by simp, Or.inr ⟨w.heap.size, n, madeCells (Value.int .i64 0).cells n, rfl, Nat.le_refl _, heap_alloc_new w _, Nat.le_refl _, by unfold maxLen; omega, by rw [← Array.length_toList, made_int]; simp, ?_⟩⟩
    rw [made_int, List.take_of_length_le (by simp)]
  have hst := hidden (PS.start ((Ext.refl w).alloc _) hown (by simp) : PS _ _ _ _ _ n 0 [] _)
  replace hn := hidden hn
  replace hR := hidden hR
  clear hi hown
  go_enter Tryz.func52, Tryz.ntmps52
  go_wp2_with fail
  clear hmk1
  go_loopw [6, 7, 8] (fun vp vt ix wr => ∃ (k : Nat) (st : Stk) (Px : List Int), k ≤ n ∧ ix = .int .i64 (k : Int) ∧ Hid (PS w wr (.slice (some ⟨w.heap.size, 0, none⟩) n n) vp vt n k st Px) ∧ Hid (runM C (n - k) k st Px = R)) (fun _ _ ix _ => (n - intOf ix).toNat)
  case atStart => exact ⟨0, [], _, by omega, rfl, hst, hR⟩
  case round =>
    obtain ⟨k, st, Px, hk, rfl, hV, hE⟩ := hrel
    obtain ⟨W, hWW⟩ : ∃ Z, Z = wr := ⟨_, rfl⟩
    subst hWW
    obtain ⟨g, hg⟩ := ex w.heap.size
    rw [hg] at hV ⊢
    by_cases hlt : k < n
    · have hlt' : (k : Int) < (n : Int) := by omega
      obtain ⟨b, off, rfl, -, -⟩ := Rd.cells (cs := C.flatMap icell) (w := w) (sz := 2) (by have := hCd.out w (Ext.refl w); unfold Code18 at this; rw [hn.out] at this; exact this) (show 0 < n by omega)
      have hbg : b ≠ g := by have := hoffc.out (by omega) b rfl; omega
      have hbg' : g ≠ b := fun e => hbg e.symm
      have hkw : IntKind.i64.wrap ((k : Int) + 1) = (k : Int) + 1 := IntWalk.i64_in _ (by omega)
      have hEq : Hid (n - k = (n - (k + 1)) + 1) := by show _ = _; omega
      rw [hEq.out, runM_succ] at hE
      have y0 := OwnI.at hV.out.o k (by rw [hV.out.len]; exact hlt)
      have yf := OwnI.fz hV.out.o k
      go_upto_region 9 with fail
      have hV1 := hV.out.put k (-1)
      obtain ⟨V, hVV⟩ := ex (W.setCell ⟨g, k, none⟩ (.int .i64 (-1)))
      rw [hVV] at hV1 ⊢
      clear hV y0 yf
      obtain ⟨Py, hPy⟩ := ex (Px.set k (-1))
      rw [hPy] at hV1 hE
      have hcode := hCd.out V hV1.ext
      obtain ⟨x0, -⟩ := code_at hcode k (by rw [hn.out]; exact hlt)
      obtain ⟨u, hu⟩ := ex (opAtFl C k)
      rw [hu] at x0
      have hplen := hV1.len
      have hdep := hV1.dep
      obtain ⟨ap, cp, rfl, hap⟩ := hV1.p.shape st.length (opn_len st)
      obtain ⟨aq, ct, rfl, haq⟩ := hV1.t.shape st.length (oth_len st)
      obtain ⟨L, hL⟩ := ex st.length
      have hV2 := hV1
      rw [hL] at hdep hap haq hV2 ⊢
      have hLw : IntKind.i64.wrap (L : Int) = L := IntWalk.i64_in _ (by omega)
      have hE0 := hE.out
      unfold stepM at hE0
      rw [hu] at hE0
      replace hE0 := hidden hE0
      replace hV2 := hidden hV2
      replace hVV := hidden hVV
      replace hPy := hidden hPy
      replace hcode := hidden hcode
      replace hV1 := hidden hV1
      replace hplen := hidden hplen
      replace hL := hidden hL
      replace hu := hidden hu
      replace hg := hidden hg
      clear hE
      by_cases h27 : u = 27
      · subst h27
        have hE1 := hE0.out
        rw [if_pos (by omega)] at hE1
        by_cases h8 : L = 8
        · subst h8
          rw [if_pos hL.out] at hE1
          replace hE1 := hidden hE1
          go_wp2_with fail
          go_ret3
          unfold PtP
          rw [hRe.out k hE1.out.symm]
          exact ⟨_, rfl, OwnI.nil' _ _, hV1.out.ext⟩
        · have hq8 : ((L : Int) == 8) = false := by simp; omega
          rw [if_neg (by rw [hL.out]; exact h8)] at hE1
          replace hE1 := hidden hE1
          have hL8 : L < 8 := by omega
          have HO := hidden (show (V.alloc (.cells #[.int .i64 (k : Int)] 3)).ownsRow g 3 1 (.slice ap L cp) L ((opn st).map (Value.int .i64)) by have := hV2.out.p; unfold OwnI at this; rw [opn_len, hL.out, hg.out] at this; exact own_ext this ((Ext.refl V).alloc _))
          have hnw := hidden (rd_one V (k : Int))
          have hws := hV1.out.ext.size
          rw [hg.out] at hws
          go_wp2_with (at_builtin; first
            | (refine wpList_append_rd (by rfl) _ _ 78 (by rfl) g 3 i1 (.int .i64 0) 1 8 Tryz.underlying78 hia.out hz0 hz1 hz2 rfl (by decide) (.slice ap L cp) L ((opn st).map (Value.int .i64)) (by rfl) HO.out (some ⟨V.heap.size, 0, none⟩) 1 1 [.int .i64 (k : Int)] (by rfl) hnw.out (by simp [Value.oneCell']) (by unfold maxLen; omega) (by omega) (by simp; omega) ?_; intro v' w4 hown4 hgrow4 hat4
               have hO4 : OwnI w4 w.heap.size v' (opn st ++ [(k : Int)]) := by unfold OwnI; rw [List.length_append, List.map_append, opn_len, hL.out, hg.out]; exact hown4
               have HT := hidden (show (w4.alloc (.cells #[.int .i64 (-1)] 3)).ownsRow g 3 1 (.slice aq L ct) L ((oth st).map (Value.int .i64)) by have := hV2.out.other hgrow4; unfold OwnI at this; rw [oth_len, hL.out, hg.out] at this; exact own_ext this ((Ext.refl w4).alloc _))
               have hnw2 := hidden (rd_one w4 (-1))
               have hws4 : g ≤ w4.heap.size := Nat.le_trans hws (grown_size hgrow4)
               replace hO4 := hidden hO4)
            | (refine wpList_append_rd (by rfl) _ _ 78 (by rfl) g 3 i1 (.int .i64 0) 1 8 Tryz.underlying78 hia.out hz0 hz1 hz2 rfl (by decide) (.slice aq L ct) L ((oth st).map (Value.int .i64)) (by rfl) HT.out (some ⟨w4.heap.size, 0, none⟩) 1 1 [.int .i64 (-1)] (by rfl) hnw2.out (by simp [Value.oneCell']) (by unfold maxLen; omega) (by omega) (by simp; omega) ?_; intro v'' w6 hown6 hgrow6 hat6))
          have hO6 : OwnI w6 w.heap.size v'' (oth st ++ [-1]) := by
            unfold OwnI
            rw [List.length_append, List.map_append, oth_len, hL.out, hg.out]
            exact hown6
          go_roundw
          case rel => exact ⟨k + 1, _, Py, by omega, by go_num, hV2.out.push (by rw [hL.out]; exact hL8) hO4.out hgrow4 hat4 hO6 hgrow6 hat6, hE1⟩
          case measure => simp [intOf] <;> omega
      have hq27 : (u == 27) = false := by simp; exact h27
      by_cases h29 : u = 29
      · subst h29
        have hE1 := hE0.out
        rw [if_pos (by omega)] at hE1
        by_cases h8 : L = 8
        · subst h8
          rw [if_pos hL.out] at hE1
          replace hE1 := hidden hE1
          go_wp2_with fail
          go_ret3
          unfold PtP
          rw [hRe.out k hE1.out.symm]
          exact ⟨_, rfl, OwnI.nil' _ _, hV1.out.ext⟩
        · have hq8 : ((L : Int) == 8) = false := by simp; omega
          rw [if_neg (by rw [hL.out]; exact h8)] at hE1
          replace hE1 := hidden hE1
          have hL8 : L < 8 := by omega
          have HO := hidden (show (V.alloc (.cells #[.int .i64 (k : Int)] 3)).ownsRow g 3 1 (.slice ap L cp) L ((opn st).map (Value.int .i64)) by have := hV2.out.p; unfold OwnI at this; rw [opn_len, hL.out, hg.out] at this; exact own_ext this ((Ext.refl V).alloc _))
          have hnw := hidden (rd_one V (k : Int))
          have hws := hV1.out.ext.size
          rw [hg.out] at hws
          go_wp2_with (at_builtin; first
            | (refine wpList_append_rd (by rfl) _ _ 78 (by rfl) g 3 i1 (.int .i64 0) 1 8 Tryz.underlying78 hia.out hz0 hz1 hz2 rfl (by decide) (.slice ap L cp) L ((opn st).map (Value.int .i64)) (by rfl) HO.out (some ⟨V.heap.size, 0, none⟩) 1 1 [.int .i64 (k : Int)] (by rfl) hnw.out (by simp [Value.oneCell']) (by unfold maxLen; omega) (by omega) (by simp; omega) ?_; intro v' w4 hown4 hgrow4 hat4
               have hO4 : OwnI w4 w.heap.size v' (opn st ++ [(k : Int)]) := by unfold OwnI; rw [List.length_append, List.map_append, opn_len, hL.out, hg.out]; exact hown4
               have HT := hidden (show (w4.alloc (.cells #[.int .i64 (-1)] 3)).ownsRow g 3 1 (.slice aq L ct) L ((oth st).map (Value.int .i64)) by have := hV2.out.other hgrow4; unfold OwnI at this; rw [oth_len, hL.out, hg.out] at this; exact own_ext this ((Ext.refl w4).alloc _))
               have hnw2 := hidden (rd_one w4 (-1))
               have hws4 : g ≤ w4.heap.size := Nat.le_trans hws (grown_size hgrow4)
               replace hO4 := hidden hO4)
            | (refine wpList_append_rd (by rfl) _ _ 78 (by rfl) g 3 i1 (.int .i64 0) 1 8 Tryz.underlying78 hia.out hz0 hz1 hz2 rfl (by decide) (.slice aq L ct) L ((oth st).map (Value.int .i64)) (by rfl) HT.out (some ⟨w4.heap.size, 0, none⟩) 1 1 [.int .i64 (-1)] (by rfl) hnw2.out (by simp [Value.oneCell']) (by unfold maxLen; omega) (by omega) (by simp; omega) ?_; intro v'' w6 hown6 hgrow6 hat6))
          have hO6 : OwnI w6 w.heap.size v'' (oth st ++ [-1]) := by
            unfold OwnI
            rw [List.length_append, List.map_append, oth_len, hL.out, hg.out]
            exact hown6
          go_roundw
          case rel => exact ⟨k + 1, _, Py, by omega, by go_num, hV2.out.push (by rw [hL.out]; exact hL8) hO4.out hgrow4 hat4 hO6 hgrow6 hat6, hE1⟩
          case measure => simp [intOf] <;> omega
      have hq29 : (u == 29) = false := by simp; exact h29
      by_cases h28 : u = 28
      · subst h28
        have hE1 := hE0.out
        rw [if_neg (by omega), if_pos rfl] at hE1
        cases st with
        | nil =>
          obtain rfl : L = 0 := hL.out.symm
          replace hE1 := hidden hE1
          go_wp2_with fail
          go_ret3
          unfold PtP
          rw [hRe.out k hE1.out.symm]
          exact ⟨_, rfl, OwnI.nil' _ _, hV1.out.ext⟩
        | cons x s =>
          obtain ⟨q, y⟩ := x
          obtain ⟨m, hm⟩ := ex s.length
          have hLm : m + 1 = L := by rw [← hL.out]; simp [hm]
          obtain ⟨gp, rfl, hgp1, hgp2⟩ := hap (by omega)
          obtain ⟨gt, rfl, hgt1, hgt2⟩ := haq (by omega)
          have y0 := OwnI.at hV2.out.p m (by rw [opn_len]; simp [hm])
          rw [show (opn ((q, y) :: s)).getD m 0 = (q : Int) from getD_mid (by rw [opn_len, hm])] at y0
          have y1 := OwnI.at hV2.out.t m (by rw [oth_len]; simp [hm])
          rw [show (oth ((q, y) :: s)).getD m 0 = y from getD_mid (by rw [oth_len, hm])] at y1
          have y1f := OwnI.fz hV2.out.t m
          have d1 : gp ≠ g := fun e => hV2.out.d1 g rfl (by simp [Value.ownBlock, e])
          have d2 : gt ≠ g := fun e => hV2.out.d2 g rfl (by simp [Value.ownBlock, e])
          have d3 : gp ≠ gt := fun e => hV2.out.d3 gt (by simp [Value.ownBlock, e]) rfl
          have d1' : g ≠ gp := fun e => d1 e.symm
          have d2' : g ≠ gt := fun e => d2 e.symm
          have d3' : gt ≠ gp := fun e => d3 e.symm
          obtain ⟨hqk, hy1, hy2⟩ := hV2.out.bd _ List.mem_cons_self
          simp only at hqk hy1 hy2
          have hqn : (q : Int) < (n : Int) := by omega
          have hqn0 : q < n := by omega
          have hlw : IntKind.i64.wrap ((L : Int) - 1) = (m : Int) := by rw [IntWalk.i64_in _ (by omega)]; omega
          have hmL : (m : Int) < (L : Int) := by omega
          have hmL0 : m < L := by omega
          have hLq : ((L : Int) == 0) = false := by simp; omega
          have hv0 := OwnI.at hV2.out.o q (by rw [hplen.out]; exact hqn0)
          have hvf := fun j => OwnI.fz hV2.out.o j
          obtain ⟨z0, -⟩ := code_at hcode.out q (by rw [hn.out]; exact hqn0)
          obtain ⟨z, hz⟩ := ex (opAtFl C q)
          simp only at hE1
          rw [hz] at z0 hE1
          have hVt := hidden (((hV2.out.bump).top k (by omega) (by omega)).put q k)
          rw [hm] at hVt
          replace hz := hidden hz
          replace hm := hidden hm
          replace hLm := hidden hLm
          have hvf := hvf q
          by_cases hz27 : z = 27
          · subst hz27
            by_cases hy : 0 ≤ y
            · rw [if_pos (Or.inr hy)] at hE1
              replace hE1 := hidden hE1
              go_wp2_with fail
              go_ret3
              unfold PtP
              rw [hRe.out k hE1.out.symm]
              exact ⟨_, rfl, OwnI.nil' _ _, hV1.out.ext⟩
            · rw [if_neg (by omega)] at hE1
              replace hE1 := hidden hE1
              have hy' : y < 0 := by omega
              go_wp2_with fail
              go_roundw
              case rel => exact ⟨k + 1, _, _, by omega, by go_num, hVt, hE1⟩
              case measure => simp [intOf] <;> omega
          · have hzq : (z == 27) = false := by simp; exact hz27
            have hzq' : (z != 27) = true := by simp; exact hz27
            rw [if_pos (Or.inl hz27)] at hE1
            replace hE1 := hidden hE1
            go_wp2_with fail
            go_ret3
            unfold PtP
            rw [hRe.out k hE1.out.symm]
            exact ⟨_, rfl, OwnI.nil' _ _, hV1.out.ext⟩
      have hq28 : (u == 28) = false := by simp; exact h28
      by_cases h30 : u = 30
      · subst h30
        have hE1 := hE0.out
        rw [if_neg (by omega), if_neg h28, if_pos rfl] at hE1
        have hin := hidden (inner_any _ _ C (opn st) V hcode.out hV2.out.p.rd (fun x hx => by obtain ⟨z, hz, rfl⟩ := opn_mem hx; have := (hV2.out.bd z hz).1; rw [hn.out]; omega))
        go_wp2_with fail
        refine hin.out.mono ?_
        clear hin
        rintro e w1 ⟨y, rfl, hy, hw⟩
        rw [hw, ]
        clear hw
        rw [inLoop_no] at hy
        by_cases hil : inLoop C st = true
        · have hy' : ¬ y < 0 := fun h => by rw [hy.1 h] at hil; cases hil
          rw [if_pos hil] at hE1
          replace hE1 := hidden hE1
          replace hil := hidden hil
          clear hy
          go_wp2_with fail
          go_roundw
          case rel => exact ⟨k + 1, st, Py, by omega, by go_num, hV2.out.bump, hE1⟩
          case measure => simp [intOf] <;> omega
        · have hy' : y < 0 := hy.2 (by simpa using hil)
          rw [if_neg hil] at hE1
          replace hE1 := hidden hE1
          replace hil := hidden hil
          clear hy
          go_wp2_with fail
          go_ret3
          unfold PtP
          rw [hRe.out k hE1.out.symm]
          exact ⟨_, rfl, OwnI.nil' _ _, hV1.out.ext⟩
      have hq30 : (u == 30) = false := by simp; exact h30
      by_cases h31 : u = 31
      · subst h31
        have hE1 := hE0.out
        rw [if_neg (by omega), if_neg h28, if_neg h30, if_pos rfl] at hE1
        cases st with
        | nil =>
          obtain rfl : L = 0 := hL.out.symm
          replace hE1 := hidden hE1
          go_wp2_with fail
          go_ret3
          unfold PtP
          rw [hRe.out k hE1.out.symm]
          exact ⟨_, rfl, OwnI.nil' _ _, hV1.out.ext⟩
        | cons x s =>
          obtain ⟨q, y⟩ := x
          obtain ⟨m, hm⟩ := ex s.length
          have hLm : m + 1 = L := by rw [← hL.out]; simp [hm]
          obtain ⟨gp, rfl, hgp1, hgp2⟩ := hap (by omega)
          obtain ⟨gt, rfl, hgt1, hgt2⟩ := haq (by omega)
          have y0 := OwnI.at hV2.out.p m (by rw [opn_len]; simp [hm])
          rw [show (opn ((q, y) :: s)).getD m 0 = (q : Int) from getD_mid (by rw [opn_len, hm])] at y0
          have y1 := OwnI.at hV2.out.t m (by rw [oth_len]; simp [hm])
          rw [show (oth ((q, y) :: s)).getD m 0 = y from getD_mid (by rw [oth_len, hm])] at y1
          have y1f := OwnI.fz hV2.out.t m
          have d1 : gp ≠ g := fun e => hV2.out.d1 g rfl (by simp [Value.ownBlock, e])
          have d2 : gt ≠ g := fun e => hV2.out.d2 g rfl (by simp [Value.ownBlock, e])
          have d3 : gp ≠ gt := fun e => hV2.out.d3 gt (by simp [Value.ownBlock, e]) rfl
          have d1' : g ≠ gp := fun e => d1 e.symm
          have d2' : g ≠ gt := fun e => d2 e.symm
          have d3' : gt ≠ gp := fun e => d3 e.symm
          obtain ⟨hqk, hy1, hy2⟩ := hV2.out.bd _ List.mem_cons_self
          simp only at hqk hy1 hy2
          have hqn : (q : Int) < (n : Int) := by omega
          have hqn0 : q < n := by omega
          have hlw : IntKind.i64.wrap ((L : Int) - 1) = (m : Int) := by rw [IntWalk.i64_in _ (by omega)]; omega
          have hmL : (m : Int) < (L : Int) := by omega
          have hmL0 : m < L := by omega
          have hLq : ((L : Int) == 0) = false := by simp; omega
          have hv0 := OwnI.at hV2.out.o q (by rw [hplen.out]; exact hqn0)
          have hvf := fun j => OwnI.fz hV2.out.o j
          simp only at hE1
          replace hE1 := hidden hE1
          have hcp : L ≤ cp := by have := hV2.out.p.rd; unfold RdI at this; rw [opn_len, hL.out] at this; exact Rd.cap this
          have hct : L ≤ ct := by have := hV2.out.t.rd; unfold RdI at this; rw [oth_len, hL.out] at this; exact Rd.cap this
          have hsu := Tryz.underlying78
          have hel : Tryz.prog.elem 78 = 3 := by unfold Program.elem; rw [hsu]
          have ht : Tryz.prog.underlying 78 = some (.slice (Tryz.prog.elem 78)) := by rw [hel]; exact hsu
          have hch : ∀ (g0 c0 : Nat), L ≤ c0 → ∀ w1, (Instr.sliceAt 78 (.slice (some ⟨g0, 0, none⟩) L c0) none (some (.int .i64 (m : Int))) none).run Tryz.prog w1 = .ok (.slice (some ⟨g0, 0, none⟩) m c0) w1 := fun g0 c0 hc0 w1 => by
            rw [run_sliceAt_slice w1 _ _ _ _ _ ht, run_slice_h w1 _ _ _ _ ht _ _ (by omega) (by omega), hel, Tryz.sizeOf3]
            simp [sliced, Addr.add, Result.andThen, show c0 ≠ 0 by omega]
          have hch1 := hch gp cp hcp
          have hch2 := hch gt ct hct
          have hk0 := OwnI.at hV2.out.o k (by rw [hplen.out]; exact hlt)
          have hkf := hvf k
          clear hsu hel ht hch
          go_upto_region 28 with fail
          have hV3 := hV2.out.put k q
          obtain ⟨V1, hV1e⟩ := ex (V.setCell ⟨g, k, none⟩ (.int .i64 (q : Int)))
          rw [hV1e] at hV3 ⊢
          replace hV1e := hidden hV1e
          clear y0 y1 y1f hv0 hvf hk0 hkf
          obtain ⟨Pz, hPz⟩ := ex (Py.set k (q : Int))
          rw [hPz] at hV3 hE1
          have hzl := hV3.len
          have y0 := OwnI.at hV3.p m (by rw [opn_len]; simp [hm])
          rw [show (opn ((q, y) :: s)).getD m 0 = (q : Int) from getD_mid (by rw [opn_len, hm])] at y0
          have y1 := OwnI.at hV3.t m (by rw [oth_len]; simp [hm])
          rw [show (oth ((q, y) :: s)).getD m 0 = y from getD_mid (by rw [oth_len, hm])] at y1
          obtain ⟨j, hj⟩ : ∃ j, (if 0 ≤ y then y.toNat else q) = j := ⟨_, rfl⟩
          rw [hj] at hE1
          have hjn : j < n := by rw [← hj]; split <;> omega
          have hj0 := OwnI.at hV3.o j (by rw [hzl]; exact hjn)
          have hjf := OwnI.fz hV3.o j
          have hVt : Hid (PS w (V1.setCell ⟨g, j, none⟩ (.int .i64 (k : Int))) (.slice (some ⟨g, 0, none⟩) n n) (.slice (some ⟨gp, 0, none⟩) m cp) (.slice (some ⟨gt, 0, none⟩) m ct) n (k + 1) s (Pz.set j k)) := by
            rw [← hLm] at hV3
            exact hidden (((hV3.put j k).pop hm).bump)
          replace hV3 := hidden hV3
          replace hPz := hidden hPz
          replace hzl := hidden hzl
          replace hm := hidden hm
          replace hLm := hidden hLm
          by_cases hy : 0 ≤ y
          · rw [if_pos hy] at hj
            obtain rfl : y = (j : Int) := by omega
            replace hj := hidden hj
            go_upto_region 31 with fail
            go_quiet (fail)
            go_wp2_with fail
            go_roundw
            case rel => exact ⟨k + 1, s, _, by omega, by go_num, hVt.out.move ((Ext.refl _).drewN _), hE1⟩
            case measure => simp [intOf] <;> omega
          · rw [if_neg hy] at hj
            subst hj
            have hy' : y < 0 := by omega
            go_upto_region 31 with fail
            go_quiet (fail)
            go_wp2_with fail
            go_roundw
            case rel => exact ⟨k + 1, s, _, by omega, by go_num, hVt.out.move ((Ext.refl _).drewN _), hE1⟩
            case measure => simp [intOf] <;> omega
      have hq31 : (u == 31) = false := by simp; exact h31
      have hE1 := hE0.out
      rw [if_neg (by omega), if_neg h28, if_neg h30, if_neg h31] at hE1
      replace hE1 := hidden hE1
      go_wp2_with fail
      go_roundw
      case rel => exact ⟨k + 1, st, Py, by omega, by go_num, hV2.out.bump, hE1⟩
      case measure => simp [intOf] <;> omega
    · obtain rfl : k = n := by omega
      rw [Nat.sub_self] at hE
      cases st with
      | nil =>
        have hE1 : R = .ok Px := by have := hE.out; unfold runM at this; rw [if_pos rfl] at this; exact this.symm
        obtain ⟨P', hp1, hp2⟩ := hRo.out Px hE1
        obtain ⟨ap, cp, hup, -⟩ := hV.out.p.shape 0 rfl
        subst hup
        have hlv := hidden (leaves_any _ (.slice (some ⟨g, 0, none⟩) k k) C Px P' W w.heap.size (hCd.out W hV.out.ext) (by rw [hn.out]; exact hC) hV.out.o (by rw [hV.out.len, hn.out]) (fun x hx h0 e => by
          have := hoffc.out (by rw [← hn.out]; exact h0) x e
          have := (own_lt hV.out.o hx).1
          omega) (by rw [hn.out]; exact hp2))
        replace hE1 := hidden hE1
        replace hp1 := hidden hp1
        replace hp2 := hidden hp2
        go_wp2_with fail
        refine hlv.out.mono ?_
        clear hlv
        rintro e w1 ⟨rfl, hO, hX⟩
        replace hO := hidden hO
        replace hX := hidden hX
        go_wp2_with fail
        go_ret3
        unfold PtP
        rw [hp1.out]
        exact ⟨_, rfl, hO.out, ((Chg.of_ext [] hV.out.ext).trans hX.out (fun x hx => Or.inr (own_lt hV.out.o (by simpa using hx)).1)).ext⟩
      | cons x s =>
        have hE1 : R = .error k := by have := hE.out; unfold runM at this; rw [if_neg (by simp)] at this; exact this.symm
        obtain ⟨ap, cp, hup, -⟩ := hV.out.p.shape (s.length + 1) (by rw [opn_len]; rfl)
        subst hup
        obtain ⟨m, hm⟩ := ex s.length
        rw [hm]
        have hm1 : (0 : Int) < ((m + 1 : Nat) : Int) := by omega
        replace hm := hidden hm
        obtain ⟨L, hL⟩ := ex (m + 1)
        rw [hL] at hm1 ⊢
        replace hL := hidden hL
        replace hE1 := hidden hE1
        go_wp2_with fail
        go_ret3
        unfold PtP
        rw [hRe.out k hE1.out]
        exact ⟨_, rfl, OwnI.nil' _ _, hV.out.ext⟩
theorem pt_pair (C : List (Int × Int)) : (ptR C).1 = (pairR C).1 ∧ (ptR C).2.2 = (pairR C).2 ∧ (ptR C).2.2 = (parR C).2.2 ∧ (ptR C).2.1 = (parR C).2.1 := by
  unfold ptR pairR parR
  split
  · split
    next h => simp [h]
    next h => simp [h]
  · simp
theorem rpartners_any (v : Value) (C : List (Int × Int)) (w : World) (h : Code18 w v C) :
    Calls Tryz.prog 40 #[v] w (PairP w C) := by
  have hp := hidden (partners_any v C w h)
  obtain ⟨e1, e2, -, -⟩ := pt_pair C
  replace e1 := hidden e1
  replace e2 := hidden e2
  clear h
  go_enter Tryz.func40, Tryz.ntmps40
  go_wp2_with fail
  refine hp.out.mono ?_
  rintro x w1 ⟨vo, rfl, hO, hX⟩
  rw [e1.out] at hO
  rw [e2.out]
  replace hO := hidden hO
  replace hX := hidden hX
  go_wp2_with fail
  go_ret2
  exact ⟨_, rfl, hO.out, hX.out⟩
end Go.Proofs.YtgjjklajipekdaaGreat
