/- parity.Repair. -/
import Derived.Test.YtpfelklhejpnnaaHag
namespace Go.Proofs.Ytpfelklhejpnnaa
open Go.RowKit Go.Shelf
set_option linter.unusedVariables false
set_option linter.unusedSimpArgs false
attribute [local go_sem] Oper.semAt_some

/-- Some rows are those of P. -/
def repK (P : List (List Int)) (T : List Nat) (L : List (List Int)) : List (List Int) := T.foldl (fun L i => L.set i (P.getD i [])) L
def repF (P : List (List Int)) (d s : Nat) : List (List Int) := repK P (PI (ln P) P.length) (wholeF P d s)
theorem repK_snoc (P : List (List Int)) (T : List Nat) (i : Nat) (L : List (List Int)) : repK P (T ++ [i]) L = (repK P T L).set i (P.getD i []) := by unfold repK; rw [List.foldl_append]; rfl
theorem repK_len (P : List (List Int)) (L : List (List Int)) : ∀ (T : List Nat), (repK P T L).length = L.length := by
  intro T
  induction T generalizing L with
  | nil => rfl
  | cons i T ih => show (repK P T (L.set i (P.getD i []))).length = _; rw [ih, List.length_set]
theorem rd_grown {X Y : World} {row : Option Nat} {sz n : Nat} {v : Value} {cs : List Value} (h : Rd X sz v n cs) (hg : X.grownBy Y row) (hrow : ∀ r, row = some r → ∃ o : Obj, X.heap[r]? = some o ∧ o.isCells = false) (hsz : 0 < sz) : Rd Y sz v n cs := by
  refine Rd.chg h ((Chg.refl row.toList X).grown hg (fun k hk => Or.inl (by simp [hk]))) (fun x hx h0 e => ?_)
  have hx' : row = some x := by simpa using hx
  obtain ⟨o, ho, hc⟩ := hrow x hx'
  obtain ⟨a, cap, rfl, -⟩ := Rd.shape h
  obtain ⟨b, off, rfl, -, hcell⟩ := h.cells h0
  have : b = x := by simpa [Value.ownBlock] using e
  subst this
  have hl := h.1
  have := hcell 0 (by have : 0 < n * sz := Nat.mul_pos h0 hsz; omega)
  cases o <;> simp_all [World.cell?, Obj.isCells]
theorem ol_own {β : Type} (B : Nat) (v : Value) (f : β → List (List Int)) : Own (fun s W => OL W B v (f s)) := fun s X Y row hs hg hrow => by
  obtain ⟨vs, h1, h2, h3⟩ := hs
  exact ⟨vs, own_grown h1 hg hrow, ⟨h2.1, fun i u C hv hc => rd_grown (h2.2 i u C hv hc) hg hrow (by decide)⟩, h3⟩
def RepP (w : World) (P : List (List Int)) (d s : Nat) (e : Ending) (w' : World) : Prop :=
  ((PI (ln P) P.length).length < d ∧ e = .returned (.tuple #[.slice none 0 0, .int .i64 26]) ∧ Ext w w') ∨ (d ≤ (PI (ln P) P.length).length ∧ ∃ v, e = .returned (.tuple #[v, .int .i64 0]) ∧ OL w' w.heap.size v (repF P d s) ∧ Ext w w')
theorem own_cells {W : World} {B : Nat} {e : TypeId} {sz n g : Nat} {v : Value} {xs : List Value} (h : W.ownsRow B e sz v n xs) (hg : v.ownBlock = some g) : ∀ o, W.heap[g]? = some o → o.isCells = true := fun o ho => by
  obtain ⟨g', cap, cur, hv, hb, hh, -⟩ := h.2.resolve_left (fun e2 => by rw [e2.1] at hg; simp [Value.ownBlock] at hg)
  rw [hv] at hg
  have : g' = g := by simpa [Value.ownBlock] using hg
  subst this
  rw [hh] at ho
  cases ho
  rfl
set_option maxRecDepth 100000 in
set_option maxHeartbeats 4000000 in
theorem repair_any (n d s : Nat) (h1n : 1 ≤ n) (hn : n ≤ 64) (h1d : 1 ≤ d) (hd : d ≤ n) (h1s : 1 ≤ s) (hs : s ≤ 1000) (vP : Value) (P : List (List Int)) (hl : P.length = n) (hF : Fits P s) (hPb : ∀ l ∈ P, Bytes l) (hok : d ≤ (PI (ln P) P.length).length → InvOK (someF P d) d) (w : World) (hr : RL w vP P) :
    Calls Try.prog 37 #[vP, .int .i64 (d : Int)] w (RepP w P d s) := by
  obtain ⟨ad, cap, rfl, q1, q2⟩ := hr.shape
  have hwh := whole_any n d s h1n hn h1d hd h1s hs _ P hl hF hPb hok w hr
  have hcl := fun v l (hl : l.length ≤ 900000) w h => clone_any v l hl w h
  rw [hl] at hr q1 hwh ⊢
  replace hwh := hidden hwh
  replace hcl := hidden hcl
  replace hr := hidden hr
  replace hF := hidden hF
  clear hok hPb
  refine (callsIn_wide (n := 6)).1 ?_
  refine callsIn_of_wp_marks Try.func37 rfl trivial ?_ rfl
  simp only [Try.ntmps37, List.size_toArray, List.length_cons, List.length_nil, Nat.reduceAdd, Nat.reduceSub, Array.replicate_succ, Array.replicate_zero, List.push_toArray, List.append_toArray, List.nil_append, List.cons_append]
  refine wpIn_wide.2 ?_
  go_wp2_with fail
  refine hwh.out.mono ?_
  rintro e w1 (⟨hlo, rfl, hX1⟩ | ⟨hlo, v1, rfl, hO1, hX1⟩)
  · rw [hl] at hlo
    have hXf : Hid (Ext w (w1.alloc (.cells #[.slice none 0 0] 26))) := hidden (hX1.alloc _)
    replace hlo := hidden hlo
    clear hX1 hwh
    go_wp2_with fail
    refine ⟨.tuple #[.slice none 0 0, .int .i64 26], by simp [results, Try.f37, go_sem], Or.inl ⟨by rw [hl]; exact hlo.out, rfl, hXf.out⟩⟩
  · rw [hl] at hlo
    have hFl2 : (wholeF P d s).length = n := by unfold wholeF; rw [List.length_map, matF_len, hl]; omega
    obtain ⟨vs0, hvs0⟩ := hO1.vals
    rw [hFl2] at hvs0
    obtain ⟨ob, oc, rfl, -⟩ := own_some hvs0 (by omega)
    replace hlo := hidden hlo
    replace hO1 := hidden hO1
    replace hX1 := hidden hX1
    clear hwh hvs0
    go_wp2_with (go_at_call 53; refine (present2_any ad n cap _).mono ?_; rintro e w3 ⟨rfl, rfl⟩)
    obtain ⟨s6, hs6⟩ : ∃ x, w1.heap.size = x := ⟨_, rfl⟩
    have e6 : Blk ((w1.alloc (.cells #[.slice (some ⟨ob, 0, none⟩) n oc] 26)).alloc (.cells #[.slice ad n cap] 26)) s6 26 [.slice (some ⟨ob, 0, none⟩) n oc] := by
      have := (blk_newAt' w1 [.slice (some ⟨ob, 0, none⟩) n oc] 26 s6 hs6).alloc (.cells #[.slice ad n cap] 26)
      exact this
    have eB : Blk ((w1.alloc (.cells #[.slice (some ⟨ob, 0, none⟩) n oc] 26)).alloc (.cells #[.slice ad n cap] 26)) (s6 + 1) 26 [.slice ad n cap] := by
      have := blk_newAt' (w1.alloc (.cells #[.slice (some ⟨ob, 0, none⟩) n oc] 26)) [.slice ad n cap] 26 (s6 + 1) (by simp only [World.size_alloc, hs6])
      exact this
    have eX : Ext w1 ((w1.alloc (.cells #[.slice (some ⟨ob, 0, none⟩) n oc] 26)).alloc (.cells #[.slice ad n cap] 26)) := ((Ext.refl w1).alloc _).alloc _
    have hsz : ((w1.alloc (.cells #[.slice (some ⟨ob, 0, none⟩) n oc] 26)).alloc (.cells #[.slice ad n cap] 26)).heap.size = s6 + 1 + 1 := by simp only [World.size_alloc, hs6]
    obtain ⟨W3, hW3⟩ : ∃ X, (w1.alloc (.cells #[.slice (some ⟨ob, 0, none⟩) n oc] 26)).alloc (.cells #[.slice ad n cap] 26) = X := ⟨_, rfl⟩
    rw [hW3] at e6 eB eX hsz ⊢
    rw [hs6]
    clear hW3
    obtain ⟨A, C, hA, hB⟩ := RL.heads hr.out
    rw [hl] at hA
    have hXw3 : Ext w W3 := hX1.out.trans eX
    have hRd := Rd.ext hA hXw3
    have hO3 := hO1.out.ext eX
    have hobw : w.heap.size ≤ ob ∧ ob < w1.heap.size := hO1.out.lt (g := ob) rfl
    have hlt0 : ∀ z ∈ (if 0 < n then (Value.slice ad n cap).ownBlock.toList else []), z < w.heap.size := by
      intro z hz
      split at hz
      · next hn0 =>
        obtain ⟨b', off', rfl, hb, -⟩ := hA.cells hn0
        simp [Value.ownBlock] at hz
        omega
      · cases hz
    have hSm : ∀ z ∈ ([s6 + 1] ++ (if 0 < n then (Value.slice ad n cap).ownBlock.toList else [])), z ≠ ob ∧ z < W3.heap.size := by
      intro z hz
      rcases List.mem_append.1 hz with hz | hz
      · simp at hz; omega
      · have := hlt0 z hz; have := hX1.out.size; omega
    have hS1 : s6 + 1 ∈ ([s6 + 1] ++ (if 0 < n then (Value.slice ad n cap).ownBlock.toList else [])) := by simp
    have hS2 : 0 < n → ∀ g, (Value.slice ad n cap).ownBlock = some g → g ∈ ([s6 + 1] ++ (if 0 < n then (Value.slice ad n cap).ownBlock.toList else [])) := fun hn0 g hg => by rw [if_pos hn0, hg]; simp
    obtain ⟨S, hS⟩ : ∃ S, ([s6 + 1] ++ (if 0 < n then (Value.slice ad n cap).ownBlock.toList else [])) = S := ⟨_, rfl⟩
    rw [hS] at hS1 hS2 hSm
    have hlt : ∀ z ∈ S, z < W3.heap.size := fun z hz => (hSm z hz).2
    clear hS hlt0
    replace hsz := hidden hsz
    replace hs6 := hidden hs6
    replace hB := hidden hB
    replace hSm := hidden hSm
    rename_i KK hKK
    refine (wpIn_wide (n := 6)).1 ?_
    refine wpIn_rangeFunc_ownG rfl (by omega) (gf := 70) (lb := #[.pointer (some ⟨s6 + 1, 0, none⟩)]) rfl trivial (enters_of Try.func70 (by kernel_rfl) rfl)
      (present_stops 5 (by omega) (s6 + 1) n cap ad A (ln P) C (by omega) S hS1 hS2 W3 hlt eB hRd) keepz_t (keepz_b hlt) (Below.refl _ _) (fun _ => rfl)
      (fun (pre : List (Fin (PI (ln P) n).length)) W => ((OL W w.heap.size (.slice (some ⟨ob, 0, none⟩) n oc) (repK P (pre.map fun x => (PI (ln P) n).getD x.val 0) (wholeF P d s)) ∧ Blk W s6 26 [.slice (some ⟨ob, 0, none⟩) n oc]) ∧ W3.heap.size ≤ W.heap.size) ∧ Below w.heap.size w W)
      (fun _ _ _ => False)
      (OwnFrom.and (OwnFrom.and (OwnFrom.and (Own.from (ol_own _ _ (fun (pre : List (Fin (PI (ln P) n).length)) => repK P (pre.map fun x => (PI (ln P) n).getD x.val 0) (wholeF P d s))) _) (Own.from (blk_own _ _ (fun _ => [.slice (some ⟨ob, 0, none⟩) n oc])) _)) (Own.from (fun _ X Y row hs hg _ => Nat.le_trans hs hg.size) _)) (ownFrom_below (Nat.le_refl _) (by have := hXw3.size; omega)))
      (fun _ _ _ _ _ hs _ _ => hs)
      ⟨⟨⟨hO3, e6⟩, Nat.le_refl _⟩, hXw3⟩
      (fun x => { tmps := #[(.slice ad n cap), (.int .i64 (d : Int)), (undef), (undef), (.slice none 0 0), (.int .i64 0), (.pointer (some ⟨s6, 0, none⟩)), (.int .i64 0), (.int .i64 (((PI (ln P) n).getD x.val 0 : Nat) : Int)), (hdV A (ln P) C ((PI (ln P) n).getD x.val 0)), (.tuple #[.slice (some ⟨ob, 0, none⟩) n oc, .int .i64 0]), (.slice ad n cap), (.int .i64 (d : Int)), (.tuple #[.slice (some ⟨ob, 0, none⟩) n oc, .int .i64 0]), (.slice (some ⟨ob, 0, none⟩) n oc), (.int .i64 0), (.int .i64 0), (.bool false), (undef), (.slice ad n cap), (.func (.func 70) #[] #[.pointer (some ⟨s6 + 1, 0, none⟩)]), (.int .i64 (((PI (ln P) n).getD x.val 0 : Nat) : Int)), (hdV A (ln P) C ((PI (ln P) n).getD x.val 0)), (undef), (undef), (undef), (undef), (undef), (undef)], defers := [] }) ?assign ?body ?done ?stop
    case assign =>
      intro l x W K hK
      unfold encP
      obtain ⟨i, hi⟩ : ∃ y, (PI (ln P) n).getD x.val 0 = y := ⟨_, rfl⟩
      rw [hi] at hK ⊢
      obtain ⟨v, hv⟩ : ∃ y, hdV A (ln P) C i = y := ⟨_, rfl⟩
      rw [hv] at hK ⊢
      clear hi hv
      gi_wp2
      exact hK
    case body =>
      rintro l pre x W ⟨⟨⟨hO, b6⟩, hsW⟩, hBW⟩ hlenN
      have hBW' : Ext w W := hBW
      have hPi := PI_pos x.isLt
      have hN := hF.out.at _ hPi.2
      have hLn : (repK P (pre.map fun x => (PI (ln P) n).getD x.val 0) (wholeF P d s)).length = n := by rw [repK_len, hFl2]
      have hstep : repK P ((pre ++ [x]).map fun x => (PI (ln P) n).getD x.val 0) (wholeF P d s) = (repK P (pre.map fun x => (PI (ln P) n).getD x.val 0) (wholeF P d s)).set ((PI (ln P) n).getD x.val 0) (P.getD ((PI (ln P) n).getD x.val 0) []) := by
        rw [List.map_append, List.map_cons, List.map_nil, repK_snoc]
      have hRi := (hB.out _ (by rw [hl]; exact hPi.1)).ext hBW'
      obtain ⟨L, hL⟩ : ∃ L, repK P (pre.map fun x => (PI (ln P) n).getD x.val 0) (wholeF P d s) = L := ⟨_, rfl⟩
      rw [hL] at hO hLn hstep
      obtain ⟨i, hi⟩ : ∃ y, (PI (ln P) n).getD x.val 0 = y := ⟨_, rfl⟩
      rw [hi] at hN hPi hstep hRi ⊢
      have hHP : hdV A (ln P) C i = .slice (A i) s (C i) := by unfold hdV; rw [hN]
      rw [hHP] at hRi ⊢
      obtain ⟨pa, hpa⟩ : ∃ a, A i = a := ⟨_, rfl⟩
      obtain ⟨pc, hpc⟩ : ∃ a, C i = a := ⟨_, rfl⟩
      rw [hpa, hpc] at hRi ⊢
      have hDl : (P.getD i []).length = s := hN
      obtain ⟨D, hD⟩ : ∃ D, P.getD i [] = D := ⟨_, rfl⟩
      rw [hD] at hRi hstep hDl
      have hc1 := hcl.out _ D (by omega) W.drew hRi.drew
      have c6 := b6.cell 0 _ rfl
      have hin : i < n := hPi.1
      have hin2 : (i : Int) < (n : Int) := by omega
      have hfin : Hid (∀ W1 ua uc, Ext W.drew W1 → Own8 W1 W.drew.heap.size (.slice ua s uc) D → W1.cell? ⟨s6, 0, none⟩ = some (.slice (some ⟨ob, 0, none⟩) n oc) ∧ (∃ q, W1.cell? ⟨ob, i, none⟩ = some q) ∧ W1.frozen? ⟨ob, i, none⟩ = false ∧
          (KeepsFrom W3.heap.size W (W1.setCell ⟨ob, i, none⟩ (.slice ua s uc)) ∧ (KeepS S W (W1.setCell ⟨ob, i, none⟩ (.slice ua s uc)) ∧ W.heap.size ≤ (W1.setCell ⟨ob, i, none⟩ (.slice ua s uc)).heap.size) ∧
            ((OL (W1.setCell ⟨ob, i, none⟩ (.slice ua s uc)) w.heap.size (.slice (some ⟨ob, 0, none⟩) n oc) (repK P ((pre ++ [x]).map fun x => (PI (ln P) n).getD x.val 0) (wholeF P d s)) ∧ Blk (W1.setCell ⟨ob, i, none⟩ (.slice ua s uc)) s6 26 [.slice (some ⟨ob, 0, none⟩) n oc]) ∧ W3.heap.size ≤ (W1.setCell ⟨ob, i, none⟩ (.slice ua s uc)).heap.size) ∧ Below w.heap.size w (W1.setCell ⟨ob, i, none⟩ (.slice ua s uc)))) := hidden (fun W1 ua uc hE hOw => by
        have hE' : Ext W W1 := hE.past_drew
        have hO1 := hO.ext hE'
        obtain ⟨vs, hv⟩ := hO1.vals
        rw [hLn] at hv
        have hC1 : Chg [ob] W (W1.setCell ⟨ob, i, none⟩ (.slice ua s uc)) := (Chg.of_ext [ob] hE').setCell (Or.inl (by simp)) _
        have hb6 : ob ≠ s6 := by have := hs6.out; omega
        refine ⟨hE'.cell c6, hO1.celln hin, World.ownsRow.frozenAt hv i, (chg_keeps hC1 (fun y hy o ho => ?_)).from _, ⟨fun z hz => hC1.block z ?_ ?_, hC1.size⟩, ⟨⟨?_, (b6.ext hE').set_other (fun e => hb6 e.symm) _⟩, Nat.le_trans hsW hC1.size⟩, Chg.ext ((Chg.of_ext [] hBW').trans hC1 (fun y hy => Or.inr (by simp at hy; subst hy; exact hobw.1)))⟩
        · simp at hy; subst hy
          obtain ⟨vs2, hv2⟩ := hO.vals
          exact own_cells hv2 rfl o ho
        · have y1 := (hSm.out z hz).2
          omega
        · simpa using (hSm.out z hz).1
        · rw [hstep]
          refine hO1.set hin hOw.rd (fun _ h => ?_)
          have y1 := (own_lt hOw h).1
          have y2 := (hO.lt (g := ob) rfl).2
          have : W.drew.heap.size = W.heap.size := rfl
          omega)
      have hDl2 := hidden hDl
      clear hRi hB e6 eB eX hRd hO3 hO b6 hBW hBW' hpa hpc hHP hi hD hstep hDl hN hPi hL hlenN
      replace hc1 := hidden hc1
      gi_wp2
      refine wpIn_round_D (S := fun w' : World => w'.cell? ⟨s6, 0, none⟩ = some (.slice (some ⟨ob, 0, none⟩) n oc)) (D := [5]) (by kernel_rfl) (fun ⟨_, _, h⟩ => (show False from h)) (by kernel_rfl) c6 ?_
      intro HS
      refine takeD 0 [4, 5] (.slice (some ⟨ob, 0, none⟩) n oc) rfl rfl (by kernel_rfl) (by kernel_rfl) (by kernel_rfl) (by kernel_rfl) (by decide) (by decide) (fun _ _ _ h => h) (by rfl) (fun w' hw' => by have p1 : w'.cell? ⟨s6, 0, none⟩ = some (.slice (some ⟨ob, 0, none⟩) n oc) := hw'; go_simp) HS ?_
      try simp only [List.setIfInBounds_toArray, List.set_cons_zero, List.set_cons_succ]
      refine takeD 1 [4, 5] (.int .i64 (i : Int)) rfl rfl (by kernel_rfl) (by kernel_rfl) (by kernel_rfl) (by kernel_rfl) (by decide) (by decide) (fun _ _ _ h => h) (by rfl) (fun w' hw' => by go_simp) HS ?_
      try simp only [List.setIfInBounds_toArray, List.set_cons_zero, List.set_cons_succ]
      refine takeD 2 [3, 4, 5] (.slice pa s pc) rfl rfl (by kernel_rfl) (by kernel_rfl) (by kernel_rfl) (by kernel_rfl) (by decide) (by decide) (fun _ _ _ h => h) (by rfl) (fun w' hw' => by go_simp) HS ?_
      try simp only [List.setIfInBounds_toArray, List.set_cons_zero, List.set_cons_succ]
      refine callVD 3 46 #[.slice pa s pc] rfl rfl (by kernel_rfl) (by rfl) (by go_simp) hc1.out ?_
      rintro e W1 ⟨v7, rfl, hO7, hX7⟩
      obtain ⟨ua, uc, he⟩ := rd8_one hO7.rd
      rw [hDl2.out] at he
      subst he
      obtain ⟨g6, ⟨q, gq⟩, gf, hpost⟩ := hfin.out W1 ua uc hX7 hO7
      refine Or.inl ⟨_, rfl, fun _ => g6, ?_⟩
      try simp only [List.setIfInBounds_toArray, List.set_cons_zero, List.set_cons_succ]
      refine takeD 4 [5] (.pointer (some ⟨ob, i, none⟩)) rfl rfl (by kernel_rfl) (by kernel_rfl) (by kernel_rfl) (by kernel_rfl) (by decide) (by decide) (fun _ _ _ h => h) (by rfl) (fun w' hw' => by go_simp) g6 ?_
      try simp only [List.setIfInBounds_toArray, List.set_cons_zero, List.set_cons_succ]
      refine storeD 5 rfl rfl (by kernel_rfl) (by rfl) (w' := W1.setCell ⟨ob, i, none⟩ (.slice ua s uc)) (by go_simp) (fun h => absurd (by simp) h) ?_
      refine wpAnyD_done (by kernel_rfl) ?_ _
      exact hpost
    case done =>
      rintro E ys W hD rfl ⟨⟨⟨hO, b6⟩, hsW⟩, hX⟩ hK
      have hT : ((List.finRange (PI (ln P) n).length).map fun x => (PI (ln P) n).getD x.val 0) = PI (ln P) n := by
        rw [← upF_all, up_map (Nat.le_refl _) _ rfl, List.take_of_length_le (Nat.le_refl _)]
      rw [hT] at hO
      have c6 := b6.cell 0 _ rfl
      have hrf : repK P (PI (ln P) n) (wholeF P d s) = repF P d s := by unfold repF; rw [hl]
      rw [hrf] at hO
      have hEw : w.heap.size ≤ E := by have := hXw3.size; omega
      replace hO := hidden hO
      replace hlo := hidden hlo.out
      go_wp2_with fail
      refine ⟨by simp, .inl ⟨_, _, rfl, run_takeDeferred hK, ?_⟩⟩
      have hXe := belowK_b (n₀ := w.heap.size) (w := w) (Nat.le_refl _) _ E _ (.deferred none) hEw hK rfl rfl
      exact ⟨.tuple #[.slice (some ⟨ob, 0, none⟩) n oc, .int .i64 0], by simp [results, Try.f37, go_sem], Or.inr ⟨by rw [hl]; exact hlo.out, _, rfl, hO.out.putD hK, Below.trans hX hXe⟩⟩
    case stop =>
      rintro D c pre W _ _ h _
      exact h.elim
end Go.Proofs.Ytpfelklhejpnnaa
