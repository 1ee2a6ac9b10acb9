/- parity.whole: the walk. -/
import Derived.Test.YtpfelklhejpnnaaHpc
namespace Go.Proofs.Ytpfelklhejpnnaa
open Go.RowKit Go.Shelf
set_option linter.unusedVariables false
set_option linter.unusedSimpArgs false
attribute [local go_sem] Oper.semAt_some

def InvOK (K : List (List Int)) (d : Nat) : Prop := RedOK (wideF K d) d ∧ (invF K d).length = d ∧ Wide (invF K d) d ∧ ∀ l ∈ invF K d, Bytes l
def WholeP (w : World) (P : List (List Int)) (d s : Nat) (e : Ending) (w' : World) : Prop :=
  ((PI (ln P) P.length).length < d ∧ e = .returned (.tuple #[.slice none 0 0, .int .i64 26]) ∧ Ext w w') ∨ (d ≤ (PI (ln P) P.length).length ∧ ∃ v, e = .returned (.tuple #[v, .int .i64 0]) ∧ OL w' w.heap.size v (wholeF P d s) ∧ Ext w w')
def LeftW {p : Nat} (I : List (Fin p) → World → Prop) (d : Nat) (cd : Code) (pre : List (Fin p)) (W : World) : Prop := ∃ ini x, pre = ini ++ [x] ∧ ini.length = d ∧ I ini W ∧ cd = .exit 0
theorem leftW_own {p B d : Nat} {I : List (Fin p) → World → Prop} (h : OwnFrom B I) (cd : Code) : OwnFrom B (LeftW I d cd) := fun s X Y row hs hg hr => by
  obtain ⟨ini, x, h1, h2, h3, h4⟩ := hs
  exact ⟨ini, x, h1, h2, h ini X Y row h3 hg hr, h4⟩
theorem map_take {α β : Type} [Inhabited α] (f : List α → β) (L : List (List α)) (k : Nat) (hk : k < L.length) : (L.map f).take (k + 1) = (L.map f).take k ++ [f (L.getD k [])] := by
  rw [List.take_add_one, List.getElem?_map, List.getElem?_eq_getElem hk, List.getD_eq_getElem?_getD, List.getElem?_eq_getElem hk]
  rfl
theorem chg_putObj (W : World) (E : Nat) (o : Obj) : Chg [E] W (W.putObj E o) := ⟨rfl, rfl, rfl, by simp, fun k _ hs => World.putObj_heap_other (by simpa using hs)⟩
theorem OL.putD {W : World} {B E : Nat} {v : Value} {L : List (List Int)} (h : OL W B v L) (hE : W.heap[E]? = some (.deferred (some []))) : OL (W.putObj E (.deferred none)) B v L := by
  obtain ⟨vs, h1, h2, h3⟩ := h
  refine ⟨vs, own_chg h1 (chg_putObj W E _) (fun x hx e => ?_), ⟨h2.1, fun i u C hv hc => Rd.chg (h2.2 i u C hv hc) (chg_putObj W E _) (fun x hx h0 e => ?_)⟩, h3⟩
  · simp at hx
    subst hx
    obtain ⟨g, cap, cur, hv, hb, hg, -⟩ := h1.2.resolve_left (fun e2 => by rw [e2.1] at e; simp [Value.ownBlock] at e)
    rw [hv] at e
    have : g = x := by simpa [Value.ownBlock] using e
    subst this
    rw [hE] at hg
    cases hg
  · simp at hx
    subst hx
    have hR := h2.2 i u C hv hc
    obtain ⟨a, cap, rfl, -⟩ := Rd.shape hR
    obtain ⟨b, off, rfl, -, hcell⟩ := hR.cells h0
    have : b = x := by simpa [Value.ownBlock] using e
    subst this
    have hl := hR.1
    have := hcell 0 (by omega)
    simp [World.cell?, hE] at this
theorem up_map {p k : Nat} (hk : k ≤ p) (T : List Nat) (hT : T.length = p) : ((upF p k).map fun x => T.getD x.val 0) = T.take k := by
  unfold upF
  apply List.ext_getElem (by simp [hT])
  intro i h1 h2
  have hi : i < T.length := by simp at h2; omega
  simp [List.getD, hi]
set_option maxRecDepth 100000 in
set_option maxHeartbeats 4000000 in
theorem whole_any (n d s : Nat) (h1n : 1 ≤ n) (hn : n ≤ 64) (h1d : 1 ≤ d) (hd : d ≤ n) (h1s : 1 ≤ s) (hs : s ≤ 1000) (vP : Value) (P : List (List Int)) (hl : P.length = n) (hF : Fits P s) (hPb : ∀ l ∈ P, Bytes l) (hok : d ≤ (PI (ln P) P.length).length → InvOK (someF P d) d) (w : World) (hr : RL w vP P) :
    Calls Try.prog 52 #[vP, .int .i64 (d : Int)] w (WholeP w P d s) := by
  obtain ⟨ad, cap, rfl, q1, q2⟩ := hr.shape
  have hchk := fun W (h : RL W (.slice ad P.length cap) P) => check_any n d s h1n hn h1d hd h1s hs (.slice ad P.length cap) P hl hF W h
  rw [hl] at hr q1 hchk hok ⊢
  have hmat := fun W => matrix_any d (n - d) h1d (by omega) W
  have v0 : IntKind.i64.wrap ((n : Int) - (d : Int)) = ((n - d : Nat) : Int) := by rw [IntWalk.i64_in _ (by omega)]; omega
  have hc1 := hchk (w.alloc (.cells #[.int .i64 (d : Int)] 3)) (hr.ext ((Ext.refl w).alloc _))
  obtain ⟨s3, hs3⟩ : ∃ x, w.heap.size = x := ⟨_, rfl⟩
  have b3 := Blk.new w [.int .i64 (d : Int)] 3
  rw [hs3] at b3
  have hX0 : Ext w (w.alloc (.cells #[.int .i64 (d : Int)] 3)) := (Ext.refl w).alloc _
  replace hc1 := hidden hc1
  replace hmat := hidden hmat
  replace hr := hidden hr
  replace hF := hidden hF
  replace hPb := hidden hPb
  replace hok := hidden hok
  clear hchk
  refine (callsIn_wide (n := 6)).1 ?_
  refine callsIn_of_wp_marks Try.func52 rfl trivial ?_ rfl
  simp only [Try.ntmps52, List.size_toArray, List.length_cons, List.length_nil, Nat.reduceAdd, Nat.reduceSub, Array.replicate_succ, Array.replicate_zero, List.push_toArray, List.append_toArray, List.nil_append, List.cons_append]
  refine wpIn_wide.2 ?_
  go_wp2_with fail
  refine hc1.out.mono ?_
  rintro e w1 ⟨rfl, hX1⟩
  have b31 := b3.ext hX1
  have c31 := b31.cell 0 _ rfl
  have hX01 : Ext w w1 := hX0.trans hX1
  have hm1 := hmat.out w1
  replace b31 := hidden b31
  replace hX01 := hidden hX01
  replace hm1 := hidden hm1
  clear hX1 b3 hX0 hc1
  go_wp2_with fail
  refine hm1.out.mono ?_
  rintro e w2 ⟨vM, rfl, hM, hX2⟩
  obtain ⟨vs0, hvs0⟩ := hM.vals
  rw [matF_len, show d + (n - d) = n from by omega] at hvs0
  obtain ⟨mb, mc, rfl, -⟩ := own_some hvs0 (by omega)
  have b32 := b31.out.ext hX2
  have c32 := b32.cell 0 _ rfl
  have hX02 : Ext w w2 := hX01.out.trans hX2
  replace hM := hidden hM
  replace b32 := hidden b32
  replace hX02 := hidden hX02
  clear hX2 hm1 hX01 c31 b31 hvs0
  go_wp2_with (go_at_call 53; refine (present2_any ad n cap _).mono ?_; rintro e w3 ⟨rfl, rfl⟩)
  -- THE LOOP
  obtain ⟨s7, hs7⟩ : ∃ x, w2.heap.size = x := ⟨_, rfl⟩
  have h37 : s3 < s7 := by have := b32.out.lt; omega
  have e7 : Blk ((((w2.alloc (.cells #[.slice (some ⟨mb, 0, none⟩) n mc] 26)).alloc (.cells #[.slice none 0 0] 26)).alloc (.cells #[.slice none 0 0] 26)).alloc (.cells #[.slice ad n cap] 26)) s7 26 [.slice (some ⟨mb, 0, none⟩) n mc] := by
    have := (((blk_newAt' w2 [.slice (some ⟨mb, 0, none⟩) n mc] 26 s7 hs7).alloc (.cells #[.slice none 0 0] 26)).alloc (.cells #[.slice none 0 0] 26)).alloc (.cells #[.slice ad n cap] 26)
    exact this
  have e8 : Blk ((((w2.alloc (.cells #[.slice (some ⟨mb, 0, none⟩) n mc] 26)).alloc (.cells #[.slice none 0 0] 26)).alloc (.cells #[.slice none 0 0] 26)).alloc (.cells #[.slice ad n cap] 26)) (s7 + 1) 26 [.slice none 0 0] := by
    have := ((blk_newAt' (w2.alloc (.cells #[.slice (some ⟨mb, 0, none⟩) n mc] 26)) [.slice none 0 0] 26 (s7 + 1) (by simp only [World.size_alloc, hs7])).alloc (.cells #[.slice none 0 0] 26)).alloc (.cells #[.slice ad n cap] 26)
    exact this
  have e9 : Blk ((((w2.alloc (.cells #[.slice (some ⟨mb, 0, none⟩) n mc] 26)).alloc (.cells #[.slice none 0 0] 26)).alloc (.cells #[.slice none 0 0] 26)).alloc (.cells #[.slice ad n cap] 26)) (s7 + 1 + 1) 26 [.slice none 0 0] := by
    have := (blk_newAt' ((w2.alloc (.cells #[.slice (some ⟨mb, 0, none⟩) n mc] 26)).alloc (.cells #[.slice none 0 0] 26)) [.slice none 0 0] 26 (s7 + 1 + 1) (by simp only [World.size_alloc, hs7])).alloc (.cells #[.slice ad n cap] 26)
    exact this
  have eB : Blk ((((w2.alloc (.cells #[.slice (some ⟨mb, 0, none⟩) n mc] 26)).alloc (.cells #[.slice none 0 0] 26)).alloc (.cells #[.slice none 0 0] 26)).alloc (.cells #[.slice ad n cap] 26)) (s7 + 1 + 1 + 1) 26 [.slice ad n cap] := by
    have := blk_newAt' (((w2.alloc (.cells #[.slice (some ⟨mb, 0, none⟩) n mc] 26)).alloc (.cells #[.slice none 0 0] 26)).alloc (.cells #[.slice none 0 0] 26)) [.slice ad n cap] 26 (s7 + 1 + 1 + 1) (by simp only [World.size_alloc, hs7])
    exact this
  have eX : Ext w2 ((((w2.alloc (.cells #[.slice (some ⟨mb, 0, none⟩) n mc] 26)).alloc (.cells #[.slice none 0 0] 26)).alloc (.cells #[.slice none 0 0] 26)).alloc (.cells #[.slice ad n cap] 26)) := ((((Ext.refl w2).alloc _).alloc _).alloc _).alloc _
  have hsz : ((((w2.alloc (.cells #[.slice (some ⟨mb, 0, none⟩) n mc] 26)).alloc (.cells #[.slice none 0 0] 26)).alloc (.cells #[.slice none 0 0] 26)).alloc (.cells #[.slice ad n cap] 26)).heap.size = s7 + 1 + 1 + 1 + 1 := by simp only [World.size_alloc, hs7]
  obtain ⟨W3, hW3⟩ : ∃ X, ((((w2.alloc (.cells #[.slice (some ⟨mb, 0, none⟩) n mc] 26)).alloc (.cells #[.slice none 0 0] 26)).alloc (.cells #[.slice none 0 0] 26)).alloc (.cells #[.slice ad n cap] 26)) = X := ⟨_, rfl⟩
  rw [hW3] at e7 e8 e9 eB eX hsz ⊢
  rw [hs7]
  clear hW3
  obtain ⟨A, C, hA, hB⟩ := RL.heads (hr.out.ext hX02.out)
  rw [hl] at hA
  obtain ⟨AM, CM, hAM, hBM⟩ := RL.heads hM.out.rl
  rw [matF_len, show d + (n - d) = n from by omega] at hAM hBM
  have hNMd : ∀ i, i < n → ln (matF d (n - d)) i = d := fun i hi => (matF_wide d (n - d)).at (by rw [matF_len]; omega)
  obtain ⟨NM, hNM⟩ : ∃ f, ln (matF d (n - d)) = f := ⟨_, rfl⟩
  rw [hNM] at hAM hBM hNMd
  have hcM : ∀ i, i < n → w2.cell? ⟨mb, i, none⟩ = some (hdV AM NM CM i) := fun i hi => by
    obtain ⟨b', off', e, -, hc⟩ := hAM.cells (by omega)
    simp only [Option.some.injEq, Addr.mk.injEq, and_true] at e
    obtain ⟨rfl, rfl⟩ := e
    have := hc i (by rw [hdL_len]; exact hi)
    rw [hdL_get _ _ _ _ _ hi, Nat.zero_add] at this
    exact this
  have hRd := Rd.ext hA eX
  have hlt0 : ∀ z ∈ (if 0 < n then (Value.slice ad n cap).ownBlock.toList else []), z < w2.heap.size := by
    intro z hz
    split at hz
    · next hn0 =>
      obtain ⟨b', off', rfl, hb, -⟩ := hA.cells hn0
      simp [Value.ownBlock] at hz
      omega
    · cases hz
  have hSm : ∀ z ∈ ([s7 + 1 + 1 + 1] ++ (if 0 < n then (Value.slice ad n cap).ownBlock.toList else [])), z = s7 + 1 + 1 + 1 ∨ z < w2.heap.size := by
    intro z hz
    rcases List.mem_append.1 hz with hz | hz
    · simp at hz; exact Or.inl hz
    · exact Or.inr (hlt0 z hz)
  have hS1 : s7 + 1 + 1 + 1 ∈ ([s7 + 1 + 1 + 1] ++ (if 0 < n then (Value.slice ad n cap).ownBlock.toList else [])) := by simp
  have hS2 : 0 < n → ∀ g, (Value.slice ad n cap).ownBlock = some g → g ∈ ([s7 + 1 + 1 + 1] ++ (if 0 < n then (Value.slice ad n cap).ownBlock.toList else [])) := fun hn0 g hg => by rw [if_pos hn0, hg]; simp
  obtain ⟨S, hS⟩ : ∃ S, ([s7 + 1 + 1 + 1] ++ (if 0 < n then (Value.slice ad n cap).ownBlock.toList else [])) = S := ⟨_, rfl⟩
  rw [hS] at hS1 hS2 hSm
  have hlt : ∀ z ∈ S, z < W3.heap.size := fun z hz => by have := hSm z hz; omega
  clear hS hlt0

  replace hsz := hidden hsz
  replace hs7 := hidden hs7
  replace hs3 := hidden hs3
  replace hB := hidden hB
  replace hBM := hidden hBM
  replace hNMd := hidden hNMd
  replace hcM := hidden hcM
  replace hSm := hidden hSm
  rename_i KK hKK
  have main : ∀ (E : Nat) (W : World) (us ub : Value) (T : List Nat), T = (PI (ln P) n).take d → W.ownsRow w2.heap.size 22 1 us T.length (T.map (hdV AM NM CM)) → W.ownsRow w2.heap.size 22 1 ub T.length (T.map (hdV A (ln P) C)) →
      Blk W (s7 + 1) 26 [us] → Blk W (s7 + 1 + 1) 26 [ub] → Blk W s7 26 [.slice (some ⟨mb, 0, none⟩) n mc] → Ext w2 W → W.heap[E]? = some (.deferred (some [])) → s3 ≤ E →
      KK { tmps := ((.slice ad n cap) :: (.int .i64 (d : Int)) :: (undef) :: (.pointer (some ⟨s3, 0, none⟩)) :: (.slice none 0 0) :: (.int .i64 0) :: (.int .i64 0) :: (.pointer (some ⟨s7, 0, none⟩)) :: (.pointer (some ⟨s7 + 1, 0, none⟩)) :: (.pointer (some ⟨s7 + 1 + 1, 0, none⟩)) :: (undef) :: (undef) :: (undef) :: (undef) :: (undef) :: (undef) :: (undef) :: (undef) :: (undef) :: (undef) :: (undef) :: (.slice ad n cap) :: (.int .i64 (d : Int)) :: (.int .i64 0) :: (.int .i64 0) :: (.bool false) :: (undef) :: (.int .i64 (d : Int)) :: (.slice ad n cap) :: (.int .i64 (n : Int)) :: (.int .i64 (d : Int)) :: (.int .i64 ((n - d : Nat) : Int)) :: (.slice (some ⟨mb, 0, none⟩) n mc) :: (.slice ad n cap) :: (.func (.func 70) #[] #[.pointer (some ⟨s7 + 1 + 1 + 1, 0, none⟩)]) :: (undef) :: (undef) :: (undef) :: (undef) :: (undef) :: (undef) :: (undef) :: (undef) :: (undef) :: (undef) :: (undef) :: (undef) :: (undef) :: (undef) :: (undef) :: (undef) :: (undef) :: (undef) :: (undef) :: (undef) :: (undef) :: (undef) :: (undef) :: (undef) :: (undef) :: (undef) :: (undef) :: (undef) :: (undef) :: (undef) :: (undef) :: (undef) :: (undef) :: (undef) :: (undef) :: (undef) :: (undef) :: (undef) :: (undef) :: (undef) :: (undef) :: (undef) :: (undef) :: (undef) :: (undef) :: (undef) :: (undef) :: (undef) :: (undef) :: (undef) :: (undef) :: (undef) :: (undef) :: (undef) :: (undef) :: (undef) :: (undef) :: (undef) :: (undef) :: (undef) :: [] : List Value).toArray, defers := [{ target := .collected E, args := #[] }] } W := by
    clear e7 e8 e9 eB eX hRd hlt
    intro E W us ub T hT hus hub b8 b9 b7 hXW hE hEs
    obtain ⟨uba, ubc, rfl, -⟩ := Rd.shape (Rd.of_own hub)
    obtain ⟨usa, usc, rfl, -⟩ := Rd.shape (Rd.of_own hus)
    have hTp : ∀ j, j < T.length → T.getD j 0 < n ∧ 0 < ln P (T.getD j 0) := fun j hj => by
      rw [hT] at hj ⊢
      rw [List.length_take] at hj
      rw [List.getD_eq_getElem?_getD, List.getElem?_take_of_lt (by omega), ← List.getD_eq_getElem?_getD]
      exact PI_pos (by omega)
    have hTT : TI P d = T := by unfold TI; rw [hl, hT]
    have hTl : T.length ≤ d := by rw [hT, List.length_take]; omega
    have c9 := b9.cell 0 _ rfl
    have c3 := hXW.cell c32
    refine hKK _ _ ?_
    by_cases ht : T.length < d
    · have hpl : (PI (ln P) n).length < d := by rw [hT, List.length_take] at ht; omega
      obtain ⟨t, htl⟩ : ∃ t, T.length = t := ⟨_, rfl⟩
      rw [htl] at c9 ht
      have v1 : (t : Int) < (d : Int) := by omega
      have hXf : Ext w W := hX02.out.trans hXW
      replace hXf := hidden hXf
      replace hpl := hidden hpl
      clear hus hub b8 b9 b7 hXW hTp hTT hT htl
      go_wp2_with fail
      refine ⟨by simp, .inl ⟨_, _, rfl, run_takeDeferred hE, ?_⟩⟩
      refine ⟨.tuple #[.slice none 0 0, .int .i64 26], by simp [results, Try.f52, go_sem], Or.inl ⟨by rw [hl]; exact hpl.out, rfl, ?_⟩⟩
      exact Below.trans hXf.out (belowK_b (n₀ := w.heap.size) (w := w) (Nat.le_refl _) _ E _ (.deferred none) (by rw [hs3.out]; exact hEs) hE rfl rfl)
    · have htd : T.length = d := by omega
      rw [htd] at hus hub b8 b9 c9
      have hpl : d ≤ (PI (ln P) n).length := by rw [hT, List.length_take] at ht; omega
      have hInv := hok.out hpl
      have hsl : (someF P d).length = d := by unfold someF; rw [List.length_map, hTT, htd]
      have hbl : (basF P d).length = d := by unfold basF; rw [List.length_map, hTT, htd]
      have hsg : ∀ j, j < d → (someF P d).getD j [] = (matF d (n - d)).getD (T.getD j 0) [] := fun j hj => by
        unfold someF
        rw [hTT, hl, List.getD_eq_getElem?_getD, List.getElem?_map, List.getElem?_eq_getElem (by omega), List.getD_eq_getElem?_getD (l := T), List.getElem?_eq_getElem (show j < T.length by omega)]
        rfl
      have hbg : ∀ j, j < d → (basF P d).getD j [] = P.getD (T.getD j 0) [] := fun j hj => by
        unfold basF
        rw [hTT, List.getD_eq_getElem?_getD, List.getElem?_map, List.getElem?_eq_getElem (by omega), List.getD_eq_getElem?_getD (l := T), List.getElem?_eq_getElem (show j < T.length by omega)]
        rfl
      have hRsome : RL W (.slice usa d usc) (someF P d) := rl_of_own (T := T) (f := hdV AM NM CM) (by rw [htd]; exact hus) hXW (by rw [hsl, htd]) (fun j hj => by rw [hsg j (by omega)]; exact hBM.out _ (hTp j hj).1)
      have hRbas : RL W (.slice uba d ubc) (basF P d) := rl_of_own (T := T) (f := hdV A (ln P) C) (by rw [htd]; exact hub) hXW (by rw [hbl, htd]) (fun j hj => by rw [hbg j (by omega)]; exact hB.out _ (by rw [hl]; exact (hTp j hj).1))
      have hsW : Wide (someF P d) d := fun l hm => by
        obtain ⟨j, hj, rfl⟩ := List.mem_iff_getElem.1 hm
        have := hsg j (by omega)
        rw [List.getD_eq_getElem?_getD, List.getElem?_eq_getElem hj] at this
        have h2 := (matF_wide d (n - d)).at (k := T.getD j 0) (by rw [matF_len]; have := (hTp j (by omega)).1; omega)
        rw [← this] at h2
        exact h2
      have hsB : ∀ l ∈ someF P d, Bytes l := fun l hm => by
        obtain ⟨j, hj, rfl⟩ := List.mem_iff_getElem.1 hm
        have := hsg j (by omega)
        rw [List.getD_eq_getElem?_getD, List.getElem?_eq_getElem hj] at this
        have h2 := matF_bytes d (n - d) _ (getD_mem (k := T.getD j 0) (by rw [matF_len]; have := (hTp j (by omega)).1; omega) [])
        rw [← this] at h2
        exact h2
      have hbW : Wide (basF P d) s := fun l hm => by
        obtain ⟨j, hj, rfl⟩ := List.mem_iff_getElem.1 hm
        have := hbg j (by omega)
        rw [List.getD_eq_getElem?_getD, List.getElem?_eq_getElem hj] at this
        have h2 := hF.out.at _ (hTp j (by omega)).2
        unfold ln at h2
        rw [← this] at h2
        exact h2
      have hbB : ∀ l ∈ basF P d, Bytes l := fun l hm => by
        obtain ⟨j, hj, rfl⟩ := List.mem_iff_getElem.1 hm
        have := hbg j (by omega)
        rw [List.getD_eq_getElem?_getD, List.getElem?_eq_getElem hj] at this
        have h2 := hPb.out _ (getD_mem (L := P) (k := T.getD j 0) (by rw [hl]; exact (hTp j (by omega)).1) [])
        rw [← this] at h2
        exact h2
      have hinv := invert_any d h1d (by omega) (.slice usa d usc) (someF P d) hsl hsW hsB hInv.1 W hRsome
      have hcomb := fun W v row (h1 : row.length ≤ (basF P d).length) (h2 : Bytes row) y (h3 : W.cell? ⟨y, 0, none⟩ = some (.slice uba d ubc)) (h4 : RL W (.slice uba d ubc) (basF P d)) h5 => comb1_any y s hs (.slice uba d ubc) (basF P d) (by omega) (by omega) hbW hbB v row h1 h2 W h3 h4 h5
      have hFl1 : (origF P d s).length = d := by unfold origF; rw [List.length_map, hInv.2.1]
      have hFl2 : (wholeF P d s).length = n := by unfold wholeF; rw [List.length_map, matF_len, hl]; omega
      have hot : ∀ k, k < d → (origF P d s).take (k + 1) = (origF P d s).take k ++ [combF ((invF (someF P d) d).getD k []) (basF P d) s] := fun k hk => by
        unfold origF
        exact map_take _ _ k (by rw [hInv.2.1]; exact hk)
      have hwt : ∀ k, k < n → (wholeF P d s).take (k + 1) = (wholeF P d s).take k ++ [combF ((matF d (n - d)).getD k []) (origF P d s) s] := fun k hk => by
        unfold wholeF
        rw [hl]
        exact map_take _ _ k (by rw [matF_len]; omega)
      have horW : Wide (origF P d s) s := fun l hm => by
        unfold origF at hm
        obtain ⟨row, -, rfl⟩ := List.mem_map.1 hm
        unfold combF
        exact combK_len _ _ _ _
      have horB : ∀ l ∈ origF P d s, Bytes l := fun l hm => by
        unfold origF at hm
        obtain ⟨row, hrow, rfl⟩ := List.mem_map.1 hm
        unfold combF
        exact combK_bytes hbB _ (by rw [hInv.2.2.1 row hrow, hbl]; exact Nat.le_refl _)
      have hcomb2 := fun v (hv : ∃ a c, v = Value.slice a d c) W v' row (h1 : row.length ≤ (origF P d s).length) (h2 : Bytes row) y (h3 : W.cell? ⟨y, 0, none⟩ = some v) (h4 : RL W v (origF P d s)) h5 => comb1_any y s hs v (origF P d s) (by omega) (by omega) horW horB v' row h1 h2 W h3 h4 h5
      have hcmb := fun W a c => combiner_any (.slice a d c) a d c rfl W
      have c8 := b8.cell 0 _ rfl
      have c7 := b7.cell 0 _ rfl
      have hRM := hM.out.rl.ext hXW
      have v1 : ¬ (d : Int) < (d : Int) := by omega
      have hXf : Ext w W := hX02.out.trans hXW
      replace hXf := hidden hXf
      replace hRM := hidden hRM
      replace hinv := hidden hinv
      replace hcomb := hidden hcomb
      replace hcomb2 := hidden hcomb2
      replace hcmb := hidden hcmb
      replace hInv := hidden hInv
      replace hRbas := hidden hRbas
      replace hwt := hidden hwt
      replace hot := hidden hot
      replace hpl := hidden hpl
      clear hus hub b8 b7 hXW hTp hTT hT hsg hbg hRsome hsW hsB hbW hbB horW horB hsl hTl ht
      go_wp2_with fail
      refine hinv.out.mono ?_
      rintro e W4 ⟨v4, rfl, hback, hX4⟩
      obtain ⟨ba, bc, hbe, -, -⟩ := hback.shape
      rw [hInv.out.2.1] at hbe
      subst hbe
      have c94 := hX4.cell c9
      have hcm4 := hcmb.out W4 uba ubc
      replace hback := hidden hback
      replace hX4 := hidden hX4
      replace hcm4 := hidden hcm4
      clear hinv c8 c3
      go_wp2_with fail
      refine hcm4.out.mono ?_
      rintro e W5 ⟨rfl, hW5⟩
      have hX45 : Ext W4 W5 := by rw [hW5]; exact (Ext.refl W4).alloc _
      have hBx := Blk.new W4 [.slice uba d ubc] 26
      rw [← hW5] at hBx
      obtain ⟨x1, hx1⟩ : ∃ y, W4.heap.size = y := ⟨_, rfl⟩
      rw [hx1] at hBx ⊢
      have cx1 := hBx.cell 0 _ rfl
      have hXW5 : Ext W W5 := hX4.out.trans hX45
      have hRback : Hid (RL W5 (.slice ba d bc) (invF (someF P d) d)) := hidden (hback.out.rl.ext hX45)
      have hRbas5 : Hid (RL W5 (.slice uba d ubc) (basF P d)) := hidden (hRbas.out.ext hXW5)
      have hRM5 : Hid (RL W5 (.slice (some ⟨mb, 0, none⟩) n mc) (matF d (n - d))) := hidden (hRM.out.ext hXW5)
      have c75 := hXW5.cell c7
      have hXw5 : Hid (Ext w W5) := hidden (hXf.out.trans hXW5)
      have hE5 : W5.heap[E]? = some (.deferred (some [])) := by
        have hb : Below W.heap.size W W5 := hXW5
        rw [hb.block E (Array.getElem?_eq_some_iff.1 hE).1]; exact hE
      replace hE5 := hidden hE5
      clear hW5 hX45 hBx hback hX4 hcm4 hRM hXf hE c7 c9 c94 hXW5 hRbas
      have hRbas := hRbas5
      go_upto_region 19 with fail
      go_loopw [14, 68] (fun u i wr => ∃ k : Nat, i = .int .i64 (k : Int) ∧ k ≤ d ∧ Hid (OL wr W5.heap.size u ((origF P d s).take k)) ∧ Hid (Ext W5 wr)) (fun _ i _ => d - (intOf i).toNat)
      case atStart => exact ⟨0, rfl, by omega, hidden (OL.nil _ _), hidden (Ext.refl W5)⟩
      case round =>
        obtain ⟨k, rfl, hk, hO, hX⟩ := hrel
        have v1 : IntKind.i64.wrap ((k : Int) + 1) = (k : Int) + 1 := IntWalk.i64_in _ (by omega)
        obtain ⟨w6, hWW⟩ : ∃ X, X = wr := ⟨_, rfl⟩
        subst hWW
        by_cases hlt : k < d
        · have hlt2 : (k : Int) < (d : Int) := by omega
          obtain ⟨b', off', a1, c1, rfl, cR, hrd⟩ := (hRback.out.ext hX.out).row k hlt
          have hcm := hcomb.out w6 _ ((invF (someF P d) d).getD k []) (by rw [(hInv.out.2.2.1).at (by rw [hInv.out.2.1]; exact hlt), hbl]; exact Nat.le_refl _) (hInv.out.2.2.2 _ (getD_mem (by rw [hInv.out.2.1]; exact hlt) [])) x1 (hX.out.cell cx1) (hRbas.out.ext hX.out) hrd
          have hrw := (hInv.out.2.2.1).at (show k < (invF (someF P d) d).length by rw [hInv.out.2.1]; exact hlt)
          have ht := hot.out k hlt
          have hLl := take_len hFl1 (show k ≤ d by omega)
          obtain ⟨L, hLe⟩ : ∃ L, (origF P d s).take k = L := ⟨_, rfl⟩
          rw [hLe] at ht hLl
          have hO6 : Hid (OL w6 W5.heap.size u14 L) := hidden (hLe ▸ hO.out)
          rw [hrw] at cR hcm
          have hDl : (combF ((invF (someF P d) d).getD k []) (basF P d) s).length = s := by unfold combF; exact combK_len _ _ _ _
          obtain ⟨D, hD⟩ : ∃ D, combF ((invF (someF P d) d).getD k []) (basF P d) s = D := ⟨_, rfl⟩
          rw [hD] at hcm ht hDl
          replace hcm := hidden hcm
          replace ht := hidden ht
          clear hrd hrw hD hO hLe
          go_wp2_with fail
          refine hcm.out.mono ?_
          rintro e w7 ⟨v7, rfl, hO7, hX7⟩
          obtain ⟨ua, uc, rfl⟩ := rd8_one hO7.rd
          rw [hDl] at hO7 ⊢
          have hne := OL.ne hO6.out hO7
          have hrd7 := hO7.rd
          replace hne := hidden hne
          replace hrd7 := hidden hrd7
          replace hX7 := hidden hX7
          clear hcm hO7
          go_wp2_with (at_builtin; refine wpList_append_fresh rfl _ _ rfl W5 w6 w7 u14 L rfl hO6.out hX.out hX7.out ua s uc D hrd7.out hne.out rfl (by omega) ?_; intro v8 w8 hown hX8)
          exact ⟨⟨k + 1, by go_num, by omega, hidden (by rw [ht.out]; exact hown), hidden hX8⟩, by simp [intOf]; omega⟩
        · have hke : k = d := by omega
          have hO2 := hO.out
          rw [hke, List.take_of_length_le (by rw [hFl1]; exact Nat.le_refl _)] at hO2
          have hk8 : decide ((k : Int) < (d : Int)) = false := decide_eq_false (by omega)
          replace hO2 := hidden hO2
          clear hO hke
          have hXw6 : Hid (Ext w w6) := hidden (hXw5.out.trans hX.out)
          have hE6 : Hid (w6.heap[E]? = some (.deferred (some []))) := hidden (by
            have hb : Below W5.heap.size W5 w6 := hX.out
            rw [hb.block E (Array.getElem?_eq_some_iff.1 hE5.out).1]; exact hE5.out)
          have c76 := hX.out.cell c75
          have hRM6 : Hid (RL w6 (.slice (some ⟨mb, 0, none⟩) n mc) (matF d (n - d))) := hidden (hRM5.out.ext hX.out)
          obtain ⟨oa, oc, hoe, -, -⟩ := hO2.out.shape
          rw [hFl1] at hoe
          subst hoe
          have hcm6 := hcmb.out w6 oa oc
          replace hcm6 := hidden hcm6
          clear hE5 c75 hRM5 hRback hRbas hRbas5 cx1 hcomb
          go_wp2_with fail
          refine hcm6.out.mono ?_
          rintro e W8 ⟨rfl, hW8⟩
          have hX68 : Ext w6 W8 := by rw [hW8]; exact (Ext.refl w6).alloc _
          have hBx := Blk.new w6 [.slice oa d oc] 26
          rw [← hW8] at hBx
          obtain ⟨x2, hx2⟩ : ∃ y, w6.heap.size = y := ⟨_, rfl⟩
          rw [hx2] at hBx ⊢
          have cx2 := hBx.cell 0 _ rfl
          have c78 := hX68.cell c76
          have hRor : Hid (RL W8 (.slice oa d oc) (origF P d s)) := hidden (hO2.out.rl.ext hX68)
          have hRM8 : Hid (RL W8 (.slice (some ⟨mb, 0, none⟩) n mc) (matF d (n - d))) := hidden (hRM6.out.ext hX68)
          have hXw8 : Hid (Ext w W8) := hidden (hXw6.out.trans hX68)
          have hE8 : Hid (W8.heap[E]? = some (.deferred (some []))) := hidden (by
            have hb : Below w6.heap.size w6 W8 := hX68
            rw [hb.block E (Array.getElem?_eq_some_iff.1 hE6.out).1]; exact hE6.out)
          have hcomb2 := hidden (hcomb2.out (.slice oa d oc) ⟨oa, oc, rfl⟩)
          clear hW8 hX68 hBx hO2 hcm6 hcmb hRM6 hE6 c76 hXw6 hX hk8 hlt v1
          go_upto_region 25 with fail
          go_loopw [15, 83] (fun u i wr => ∃ k : Nat, i = .int .i64 (k : Int) ∧ k ≤ n ∧ Hid (OL wr W8.heap.size u ((wholeF P d s).take k)) ∧ Hid (Ext W8 wr)) (fun _ i _ => n - (intOf i).toNat)
          case atStart => exact ⟨0, rfl, by omega, hidden (OL.nil _ _), hidden (Ext.refl W8)⟩
          case round =>
            obtain ⟨k, rfl, hk, hO, hX⟩ := hrel
            have v1 : IntKind.i64.wrap ((k : Int) + 1) = (k : Int) + 1 := IntWalk.i64_in _ (by omega)
            obtain ⟨w6, hWW⟩ : ∃ X, X = wr := ⟨_, rfl⟩
            subst hWW
            by_cases hlt : k < n
            · have hlt2 : (k : Int) < (n : Int) := by omega
              obtain ⟨b', off', a1, c1, e, cR, hrd⟩ := (hRM8.out.ext hX.out).row k hlt
              obtain ⟨rfl, rfl⟩ : mb = b' ∧ 0 = off' := by simpa using e
              rw [Nat.zero_add] at cR
              have hcm := hcomb2.out w6 _ ((matF d (n - d)).getD k []) (by rw [(matF_wide d (n - d)).at (by rw [matF_len]; omega), hFl1]; exact Nat.le_refl _) (matF_bytes _ _ _ (getD_mem (by rw [matF_len]; omega) [])) x2 (hX.out.cell cx2) (hRor.out.ext hX.out) hrd
              have hrw := (matF_wide d (n - d)).at (show k < (matF d (n - d)).length by rw [matF_len]; omega)
              have ht := hwt.out k hlt
              have hLl := take_len hFl2 (show k ≤ n by omega)
              obtain ⟨L, hLe⟩ : ∃ L, (wholeF P d s).take k = L := ⟨_, rfl⟩
              rw [hLe] at ht hLl
              have hO6 : Hid (OL w6 W8.heap.size u15 L) := hidden (hLe ▸ hO.out)
              rw [hrw] at cR hcm
              have hDl : (combF ((matF d (n - d)).getD k []) (origF P d s) s).length = s := by unfold combF; exact combK_len _ _ _ _
              obtain ⟨D, hD⟩ : ∃ D, combF ((matF d (n - d)).getD k []) (origF P d s) s = D := ⟨_, rfl⟩
              rw [hD] at hcm ht hDl
              replace hcm := hidden hcm
              replace ht := hidden ht
              clear hrd hrw hD hO hLe
              go_wp2_with fail
              refine hcm.out.mono ?_
              rintro e w7 ⟨v7, rfl, hO7, hX7⟩
              obtain ⟨ua, uc, rfl⟩ := rd8_one hO7.rd
              rw [hDl] at hO7 ⊢
              have hne := OL.ne hO6.out hO7
              have hrd7 := hO7.rd
              replace hne := hidden hne
              replace hrd7 := hidden hrd7
              replace hX7 := hidden hX7
              clear hcm hO7
              go_wp2_with (at_builtin; refine wpList_append_fresh rfl _ _ rfl W8 w6 w7 u15 L rfl hO6.out hX.out hX7.out ua s uc D hrd7.out hne.out rfl (by omega) ?_; intro v8 w8 hown hX8)
              exact ⟨⟨k + 1, by go_num, by omega, hidden (by rw [ht.out]; exact hown), hidden hX8⟩, by simp [intOf]; omega⟩
            · have hke : k = n := by omega
              have hO2 := hO.out
              rw [hke, List.take_of_length_le (by rw [hFl2]; exact Nat.le_refl _)] at hO2
              have hk8 : decide ((k : Int) < (n : Int)) = false := decide_eq_false (by omega)
              replace hO2 := hidden hO2
              clear hO hke
              have hXw9 : Hid (Ext w w6) := hidden (hXw8.out.trans hX.out)
              have hE9 : w6.heap[E]? = some (.deferred (some [])) := by
                have hb : Below W8.heap.size W8 w6 := hX.out
                rw [hb.block E (Array.getElem?_eq_some_iff.1 hE8.out).1]; exact hE8.out
              have hbase := hO2.out.base hXw8.out.size
              obtain ⟨fa, fc, hfe, -, -⟩ := hbase.shape
              rw [hFl2] at hfe
              subst hfe
              replace hbase := hidden hbase
              replace hE9 := hidden hE9
              clear hO2 hcomb2
              go_wp2_with fail
              refine ⟨by simp, .inl ⟨_, _, rfl, run_takeDeferred hE9.out, ?_⟩⟩
              have hXe := belowK_b (n₀ := w.heap.size) (w := w) (Nat.le_refl _) _ E _ (.deferred none) (by rw [hs3.out]; exact hEs) hE9.out rfl rfl
              refine ⟨.tuple #[.slice fa n fc, .int .i64 0], by simp [results, Try.f52, go_sem], Or.inr ⟨by rw [hl]; exact hpl.out, _, rfl, hbase.out.putD hE9.out, Below.trans hXw9.out hXe⟩⟩
  refine (wpIn_wide (n := 6)).1 ?_
  refine wpIn_rangeFunc_ownG rfl (by omega) (gf := 70) (lb := #[.pointer (some ⟨s7 + 1 + 1 + 1, 0, none⟩)]) rfl trivial (enters_of Try.func70 (by kernel_rfl) rfl)
    (present_stops 5 (by omega) (s7 + 1 + 1 + 1) n cap ad A (ln P) C (by omega) S hS1 hS2 W3 hlt eB hRd) keepz_t (keepz_b hlt) (Below.refl _ _) (fun _ => rfl)
    (fun pre W => ((LoopI w2 (s7 + 1) (s7 + 1 + 1) (hdV AM NM CM) (hdV A (ln P) C) (fun j => (PI (ln P) n).getD j 0) pre W ∧ pre.length ≤ d) ∧ (Blk W s7 26 [.slice (some ⟨mb, 0, none⟩) n mc] ∧ Blk W (s7 + 1 + 1 + 1) 26 [.slice ad n cap])) ∧ Below w2.heap.size w2 W)
    (fun cd pre W => LeftW (fun pre W => ((LoopI w2 (s7 + 1) (s7 + 1 + 1) (hdV AM NM CM) (hdV A (ln P) C) (fun j => (PI (ln P) n).getD j 0) pre W ∧ pre.length ≤ d) ∧ (Blk W s7 26 [.slice (some ⟨mb, 0, none⟩) n mc] ∧ Blk W (s7 + 1 + 1 + 1) 26 [.slice ad n cap])) ∧ Below w2.heap.size w2 W) d cd pre W)
    (OwnFrom.and (OwnFrom.and (OwnFrom.and (Own.from (loopI_own _ _ _ _ _ _) _) (Own.from (fun s X Y row hs hg hrow => hs) _)) (OwnFrom.and (Own.from (blk_own _ _ (fun _ => [.slice (some ⟨mb, 0, none⟩) n mc])) _) (Own.from (blk_own _ _ (fun _ => [.slice ad n cap])) _))) (ownFrom_below (Nat.le_refl _) (by have := eX.size; omega)))
    (fun cd => leftW_own (OwnFrom.and (OwnFrom.and (OwnFrom.and (Own.from (loopI_own _ _ _ _ _ _) _) (Own.from (fun s X Y row hs hg hrow => hs) _)) (OwnFrom.and (Own.from (blk_own _ _ (fun _ => [.slice (some ⟨mb, 0, none⟩) n mc])) _) (Own.from (blk_own _ _ (fun _ => [.slice ad n cap])) _))) (ownFrom_below (Nat.le_refl _) (by have := eX.size; omega))) cd)
    ⟨⟨⟨⟨.slice none 0 0, .slice none 0 0, ⟨e8, e9⟩, ⟨World.ownsRow_nil _ _ _ _, World.ownsRow_nil _ _ _ _⟩, fun g hg => by simp [Value.ownBlock] at hg⟩, Nat.zero_le _⟩, e7, eB⟩, eX⟩
    (fun x => { tmps := ((.slice ad n cap) :: (.int .i64 (d : Int)) :: (undef) :: (.pointer (some ⟨s3, 0, none⟩)) :: (.slice none 0 0) :: (.int .i64 0) :: (.int .i64 0) :: (.pointer (some ⟨s7, 0, none⟩)) :: (.pointer (some ⟨s7 + 1, 0, none⟩)) :: (.pointer (some ⟨s7 + 1 + 1, 0, none⟩)) :: (.int .i64 (((PI (ln P) n).getD x.val 0 : Nat) : Int)) :: (hdV A (ln P) C ((PI (ln P) n).getD x.val 0)) :: (undef) :: (undef) :: (undef) :: (undef) :: (undef) :: (undef) :: (undef) :: (undef) :: (undef) :: (.slice ad n cap) :: (.int .i64 (d : Int)) :: (.int .i64 0) :: (.int .i64 0) :: (.bool false) :: (undef) :: (.int .i64 (d : Int)) :: (.slice ad n cap) :: (.int .i64 (n : Int)) :: (.int .i64 (d : Int)) :: (.int .i64 ((n - d : Nat) : Int)) :: (.slice (some ⟨mb, 0, none⟩) n mc) :: (.slice ad n cap) :: (.func (.func 70) #[] #[.pointer (some ⟨s7 + 1 + 1 + 1, 0, none⟩)]) :: (.int .i64 (((PI (ln P) n).getD x.val 0 : Nat) : Int)) :: (hdV A (ln P) C ((PI (ln P) n).getD x.val 0)) :: (undef) :: (undef) :: (undef) :: (undef) :: (undef) :: (undef) :: (undef) :: (undef) :: (undef) :: (undef) :: (undef) :: (undef) :: (undef) :: (undef) :: (undef) :: (undef) :: (undef) :: (undef) :: (undef) :: (undef) :: (undef) :: (undef) :: (undef) :: (undef) :: (undef) :: (undef) :: (undef) :: (undef) :: (undef) :: (undef) :: (undef) :: (undef) :: (undef) :: (undef) :: (undef) :: (undef) :: (undef) :: (undef) :: (undef) :: (undef) :: (undef) :: (undef) :: (undef) :: (undef) :: (undef) :: (undef) :: (undef) :: (undef) :: (undef) :: (undef) :: (undef) :: (undef) :: (undef) :: (undef) :: (undef) :: (undef) :: (undef) :: (undef) :: [] : List Value).toArray, defers := [] }) ?assign ?body ?done ?stop
  case assign =>
    intro l x W K hK
    unfold encP
    obtain ⟨i, hi⟩ : ∃ y, (PI (ln P) n).getD x.val 0 = y := ⟨_, rfl⟩
    rw [hi] at hK ⊢
    obtain ⟨v, hv⟩ : ∃ y, hdV A (ln P) C i = y := ⟨_, rfl⟩
    rw [hv] at hK ⊢
    clear hi hv
    gi_wp2
    exact hK
  case body =>
    rintro l pre x W ⟨⟨⟨⟨us, ub, ⟨b8, b9⟩, ⟨hus, hub⟩, hdj⟩, hlen⟩, b7, bB⟩, hX2W⟩ hlenN
    have hX2W' : Ext w2 W := hX2W
    have hPi := PI_pos x.isLt
    have hN := hF.out.at _ hPi.2
    obtain ⟨uba, ubc, rfl, -⟩ := Rd.shape (Rd.of_own hub)
    obtain ⟨k, hk⟩ : ∃ k, pre.length = k := ⟨_, rfl⟩
    rw [hk] at hus hub hlen b9 hdj
    obtain ⟨i, hix⟩ : ∃ y, (PI (ln P) n).getD x.val 0 = y := ⟨_, rfl⟩
    rw [hix] at hN hPi ⊢
    have hHM : hdV AM NM CM i = .slice (AM i) d (CM i) := by unfold hdV; rw [hNMd.out i hPi.1]
    have hHP : hdV A (ln P) C i = .slice (A i) s (C i) := by unfold hdV; rw [hN]
    have cM := hX2W'.cell (hcM.out i hPi.1)
    rw [hHM] at cM
    rw [hHP]
    obtain ⟨ra, hra⟩ : ∃ a, AM i = a := ⟨_, rfl⟩
    obtain ⟨rc, hrc⟩ : ∃ a, CM i = a := ⟨_, rfl⟩
    obtain ⟨pa, hpa⟩ : ∃ a, A i = a := ⟨_, rfl⟩
    obtain ⟨pc, hpc⟩ : ∃ a, C i = a := ⟨_, rfl⟩
    rw [hra, hrc] at hHM cM
    rw [hpa, hpc] at hHP
    rw [hpa, hpc]
    have c3 := hX2W'.cell c32
    have c9 := b9.cell 0 _ rfl
    by_cases hkd : k = d
    · subst hkd
      have hfin : Hid (KeepsFrom W3.heap.size W W ∧ LeftW (fun pre W => ((LoopI w2 (s7 + 1) (s7 + 1 + 1) (hdV AM NM CM) (hdV A (ln P) C) (fun j => (PI (ln P) n).getD j 0) pre W ∧ pre.length ≤ k) ∧ (Blk W s7 26 [.slice (some ⟨mb, 0, none⟩) n mc] ∧ Blk W (s7 + 1 + 1 + 1) 26 [.slice ad n cap])) ∧ Below w2.heap.size w2 W) k (.exit 0) (pre ++ [x]) W) :=
        hidden ⟨(KeepsOthers.refl _).from _, pre, x, rfl, hk, ⟨⟨⟨⟨us, _, ⟨b8, b9⟩, (by rw [hk]; exact ⟨hus, hub⟩), hdj⟩, Nat.le_of_eq hk⟩, b7, bB⟩, hX2W⟩, rfl⟩
      have v1 : ((k : Int) == (k : Int)) = true := by simp
      clear hus hub hdj b7 b8 b9 bB hX2W e7 e8 e9 eB eX hRd hHM hHP hix hra hrc hpa hpc hk hlenN
      gi_wp2
      exact hfin.out
    · have v1 : ((k : Int) == (d : Int)) = false := by simp; omega
      have hkd2 : k < d := by omega
      obtain ⟨i0, hi, hz0, hz1, hz2⟩ := info_parts s8info
      replace hi := hidden hi
      have c7 := b7.cell 0 _ rfl
      have c8 := b8.cell 0 _ rfl
      have n7 : us.ownBlock ≠ some s7 := own_ne_blk hus b7 (by decide)
      have n8 : us.ownBlock ≠ some (s7 + 1) := own_ne_blk hus b8 (by decide)
      have n9 : us.ownBlock ≠ some (s7 + 1 + 1) := own_ne_blk hus b9 (by decide)
      have nM : us.ownBlock ≠ some mb := fun e => by
        have k1 := (own_lt hus e).1
        have k2 := cell_lt (hcM.out i hPi.1)
        omega
      have hSX : Hid (∀ V V', (fun w' : World => w'.cell? ⟨s7, 0, none⟩ = some (.slice (some ⟨mb, 0, none⟩) n mc) ∧ w'.cell? ⟨s7 + 1, 0, none⟩ = some us ∧ w'.cell? ⟨s7 + 1 + 1, 0, none⟩ = some (.slice uba k ubc) ∧ w'.cell? ⟨mb, i, none⟩ = some (.slice ra d rc)) V → Ext V V' → (fun w' : World => w'.cell? ⟨s7, 0, none⟩ = some (.slice (some ⟨mb, 0, none⟩) n mc) ∧ w'.cell? ⟨s7 + 1, 0, none⟩ = some us ∧ w'.cell? ⟨s7 + 1 + 1, 0, none⟩ = some (.slice uba k ubc) ∧ w'.cell? ⟨mb, i, none⟩ = some (.slice ra d rc)) V') := hidden (fun V V' h hX => ⟨hX.cell h.1, hX.cell h.2.1, hX.cell h.2.2.1, hX.cell h.2.2.2⟩)
      have hSC : Hid (∀ V V', (fun w' : World => w'.cell? ⟨s7, 0, none⟩ = some (.slice (some ⟨mb, 0, none⟩) n mc) ∧ w'.cell? ⟨s7 + 1, 0, none⟩ = some us ∧ w'.cell? ⟨s7 + 1 + 1, 0, none⟩ = some (.slice uba k ubc) ∧ w'.cell? ⟨mb, i, none⟩ = some (.slice ra d rc)) V → Chg us.ownBlock.toList V V' → (fun w' : World => w'.cell? ⟨s7, 0, none⟩ = some (.slice (some ⟨mb, 0, none⟩) n mc) ∧ w'.cell? ⟨s7 + 1, 0, none⟩ = some us ∧ w'.cell? ⟨s7 + 1 + 1, 0, none⟩ = some (.slice uba k ubc) ∧ w'.cell? ⟨mb, i, none⟩ = some (.slice ra d rc)) V') := hidden (fun V V' h hC => ⟨hC.cell (by simpa using n7) h.1, hC.cell (by simpa using n8) h.2.1, hC.cell (by simpa using n9) h.2.2.1, hC.cell (by simpa using nM) h.2.2.2⟩)
      have hnew : Hid (∀ V, Ext W V → ∀ g, us.ownBlock = some g → (Value.slice (some ⟨V.heap.size, 0, none⟩) 1 1).ownBlock ≠ some g) := hidden (fun V hV g hg h => by
        have k1 := (own_lt hus hg).2
        have k2 := hV.size
        have : V.heap.size = g := by simpa [Value.ownBlock] using h
        omega)
      have hend : Hid (∀ V V2 V3 V9 v6 v10, Ext W V → V2.ownsRow w2.heap.size 22 1 v6 (k + 1) ((pre.map fun x => hdV AM NM CM ((PI (ln P) n).getD x.val 0)) ++ [.slice ra d rc]) → V.grownBy V2 us.ownBlock → (v6.ownBlock = us.ownBlock ∨ v6.ownBlock = some V.heap.size) → Ext V2 V3 →
          V9.ownsRow w2.heap.size 22 1 v10 (k + 1) ((pre.map fun x => hdV A (ln P) C ((PI (ln P) n).getD x.val 0)) ++ [.slice pa s pc]) → V3.grownBy V9 (Value.slice uba k ubc).ownBlock → (v10.ownBlock = (Value.slice uba k ubc).ownBlock ∨ v10.ownBlock = some V3.heap.size) →
          V9.cell? ⟨s7 + 1, 0, none⟩ = some us ∧ V9.frozen? ⟨s7 + 1, 0, none⟩ = false ∧ (V9.setCell ⟨s7 + 1, 0, none⟩ v6).cell? ⟨s7 + 1 + 1, 0, none⟩ = some (.slice uba k ubc) ∧ (V9.setCell ⟨s7 + 1, 0, none⟩ v6).frozen? ⟨s7 + 1 + 1, 0, none⟩ = false ∧
          (KeepsFrom W3.heap.size W ((V9.setCell ⟨s7 + 1, 0, none⟩ v6).setCell ⟨s7 + 1 + 1, 0, none⟩ v10) ∧ (KeepS S W ((V9.setCell ⟨s7 + 1, 0, none⟩ v6).setCell ⟨s7 + 1 + 1, 0, none⟩ v10) ∧ W.heap.size ≤ ((V9.setCell ⟨s7 + 1, 0, none⟩ v6).setCell ⟨s7 + 1 + 1, 0, none⟩ v10).heap.size) ∧
            (((LoopI w2 (s7 + 1) (s7 + 1 + 1) (hdV AM NM CM) (hdV A (ln P) C) (fun j => (PI (ln P) n).getD j 0) (pre ++ [x]) ((V9.setCell ⟨s7 + 1, 0, none⟩ v6).setCell ⟨s7 + 1 + 1, 0, none⟩ v10) ∧ (pre ++ [x]).length ≤ d) ∧ (Blk ((V9.setCell ⟨s7 + 1, 0, none⟩ v6).setCell ⟨s7 + 1 + 1, 0, none⟩ v10) s7 26 [.slice (some ⟨mb, 0, none⟩) n mc] ∧ Blk ((V9.setCell ⟨s7 + 1, 0, none⟩ v6).setCell ⟨s7 + 1 + 1, 0, none⟩ v10) (s7 + 1 + 1 + 1) 26 [.slice ad n cap])) ∧ Below w2.heap.size w2 ((V9.setCell ⟨s7 + 1, 0, none⟩ v6).setCell ⟨s7 + 1 + 1, 0, none⟩ v10)))) := hidden (fun V V2 V3 V9 v6 v10 hE o6 g6 a6 hX o10 g10 a10 => by
        obtain ⟨p1, p2, p3, p4⟩ := pair_done hus hub hdj hE o6 g6 a6 hX o10 g10 a10
        obtain ⟨⟨t1, t2, t3, t4⟩, kO, kB, sz, ⟨t8, t9⟩, ⟨o1, o2⟩, eX9⟩ := loop_end b8 b9 (by omega) hus hub p1 p2 p4 hX2W' (by rw [hs7.out]; omega) (by rw [hs7.out]; omega)
        refine ⟨t1, t2, t3, t4, kO.from _, ⟨fun z hz => ?_, sz⟩, ⟨⟨⟨v6, v10, ⟨t8, t9⟩, ?_, p3⟩, by simp; omega⟩, kB _ _ _ b7 (by decide) (by omega) (by omega), kB _ _ _ bB (by decide) (by omega) (by omega)⟩, eX9⟩
        · rcases hSm.out z hz with rfl | hz2
          · rw [show W.heap[_]? = _ from bB]; exact kB _ _ _ bB (by decide) (by omega) (by omega)
          · have y1 : Below w2.heap.size w2 W := hX2W
            have y2 : Below w2.heap.size w2 _ := eX9
            rw [y1.block z hz2, y2.block z hz2]
        · rw [List.map_append, List.map_append, List.length_append, List.length_singleton, hk]
          simp only [List.map_cons, List.map_nil, hix, hHM, hHP]
          exact ⟨o1, o2⟩)
      have hX2Wh : Hid (Ext w2 W) := hidden hX2W'
      have hS0 : (fun w' : World => w'.cell? ⟨s7, 0, none⟩ = some (.slice (some ⟨mb, 0, none⟩) n mc) ∧ w'.cell? ⟨s7 + 1, 0, none⟩ = some us ∧ w'.cell? ⟨s7 + 1 + 1, 0, none⟩ = some (.slice uba k ubc) ∧ w'.cell? ⟨mb, i, none⟩ = some (.slice ra d rc)) W.drew := ⟨c7, c8, c9, cM⟩
      obtain ⟨V0, hV0⟩ : ∃ V, W.drew = V := ⟨_, rfl⟩
      have hE0 : Hid (Ext W V0) := hidden (hV0 ▸ (Ext.refl W).drew)
      have hpl : (pre.map fun x => hdV AM NM CM ((PI (ln P) n).getD x.val 0)).length = k := by rw [List.length_map, hk]
      replace hus := hidden hus
      replace hub := hidden hub
      replace hdj := hidden hdj
      have hine : i < n := hPi.1
      clear b7 b8 b9 bB hX2W hX2W' e7 e8 e9 eB eX hRd hHM hHP hix hra hrc hpa hpc hk hlenN n7 n8 n9 nM hN hPi
      gi_wp2
      -- BEGIN10
      refine wpIn_round_D (S := fun w' : World => w'.cell? ⟨s7, 0, none⟩ = some (.slice (some ⟨mb, 0, none⟩) n mc) ∧ w'.cell? ⟨s7 + 1, 0, none⟩ = some us ∧ w'.cell? ⟨s7 + 1 + 1, 0, none⟩ = some (.slice uba k ubc) ∧ w'.cell? ⟨mb, i, none⟩ = some (.slice ra d rc)) (D := [10, 11, 12]) (by kernel_rfl) (fun ⟨_, _, h⟩ => (by cases h)) (by kernel_rfl) hS0 ?_
      intro HS
      refine takeD 0 [6, 10, 11, 12] (us) rfl rfl (by kernel_rfl) (by kernel_rfl) (by kernel_rfl) (by kernel_rfl) (by decide) (by decide) (fun _ _ _ h => h) (by rfl) (fun w' hw' => by obtain ⟨p1, p2, p3, p4⟩ := hw'; go_simp) HS ?_
      try simp only [List.setIfInBounds_toArray, List.set_cons_zero, List.set_cons_succ]
      refine takeD 1 [3, 4, 5, 6, 10, 11, 12] (.slice (some ⟨mb, 0, none⟩) n mc) rfl rfl (by kernel_rfl) (by kernel_rfl) (by kernel_rfl) (by kernel_rfl) (by decide) (by decide) (fun _ _ _ h => h) (by rfl) (fun w' hw' => by obtain ⟨p1, p2, p3, p4⟩ := hw'; go_simp) HS ?_
      try simp only [List.setIfInBounds_toArray, List.set_cons_zero, List.set_cons_succ]
      refine takeD 2 [3, 4, 5, 6, 10, 11, 12] (.int .i64 (i : Int)) rfl rfl (by kernel_rfl) (by kernel_rfl) (by kernel_rfl) (by kernel_rfl) (by decide) (by decide) (fun _ _ _ h => h) (by rfl) (fun w' hw' => by go_simp) HS ?_
      try simp only [List.setIfInBounds_toArray, List.set_cons_zero, List.set_cons_succ]
      refine takeD 3 [4, 5, 6, 10, 11, 12] (.pointer (some ⟨mb, i, none⟩)) rfl rfl (by kernel_rfl) (by kernel_rfl) (by kernel_rfl) (by kernel_rfl) (by decide) (by decide) (fun _ _ _ h => h) (by rfl) (fun w' hw' => by obtain ⟨p1, p2, p3, p4⟩ := hw'; go_simp) HS ?_
      try simp only [List.setIfInBounds_toArray, List.set_cons_zero, List.set_cons_succ]
      refine takeD 4 [5, 6, 10, 11, 12] (.slice ra d rc) rfl rfl (by kernel_rfl) (by kernel_rfl) (by kernel_rfl) (by kernel_rfl) (by decide) (by decide) (fun _ _ _ h => h) (by rfl) (fun w' hw' => by obtain ⟨p1, p2, p3, p4⟩ := hw'; go_simp) HS ?_
      try simp only [List.setIfInBounds_toArray, List.set_cons_zero, List.set_cons_succ]
      refine takeD 7 [10, 11, 12] (.slice uba k ubc) rfl rfl (by kernel_rfl) (by kernel_rfl) (by kernel_rfl) (by kernel_rfl) (by decide) (by decide) (fun _ _ _ h => h) (by rfl) (fun w' hw' => by obtain ⟨p1, p2, p3, p4⟩ := hw'; go_simp) HS ?_
      try simp only [List.setIfInBounds_toArray, List.set_cons_zero, List.set_cons_succ]
      refine takeD 8 [9, 10, 11, 12] (.slice pa s pc) rfl rfl (by kernel_rfl) (by kernel_rfl) (by kernel_rfl) (by kernel_rfl) (by decide) (by decide) (fun _ _ _ h => h) (by rfl) (fun w' hw' => by go_simp) HS ?_
      try simp only [List.setIfInBounds_toArray, List.set_cons_zero, List.set_cons_succ]
      rw [hV0] at HS ⊢
      have hS_V0 := HS
      clear HS
      refine wpAnyD_all (rs := [5, 9]) (by kernel_rfl) (by simp) ?_
      intro kk hkk
      simp only [List.mem_cons, List.not_mem_nil, or_false] at hkk
      rcases hkk with rfl | rfl
      · have hSn := hSX.out _ (V0.alloc (.cells #[.slice ra d rc] 22)) hS_V0 ((Ext.refl _).alloc _)
        refine valueV 5 (.slice (some ⟨V0.heap.size, 0, none⟩) 1 1) rfl rfl (by rfl) (w' := V0.alloc (.cells #[.slice ra d rc] 22)) (by go_simp) (fun _ => hSn) ?_
        try simp only [List.setIfInBounds_toArray, List.set_cons_zero, List.set_cons_succ]
        have hR5 : Rd (V0.alloc (.cells #[.slice ra d rc] 22)) 1 (.slice (some ⟨V0.heap.size, 0, none⟩) 1 1) 1 [.slice ra d rc] := rd_of_blkS (Blk.new V0 [.slice ra d rc] 22) rfl (by omega)
        have hE_V1 : Ext W (V0.alloc (.cells #[.slice ra d rc] 22)) := (hE0.out).alloc _
        have hF_V1 : Ext V0 (V0.alloc (.cells #[.slice ra d rc] 22)) := (Ext.refl _).alloc _
        obtain ⟨V1, hN⟩ : ∃ X, V0.alloc (.cells #[.slice ra d rc] 22) = X := ⟨_, rfl⟩
        obtain ⟨q5, hq5⟩ : ∃ X, V0.heap.size = X := ⟨_, rfl⟩
        rw [hN, hq5] at hR5
        rw [hN] at hSn hE_V1 hF_V1 ⊢
        rw [hq5]
        clear hN hq5
        have hS_V1 := hSn
        clear hSn
        refine wpAnyD_all (rs := [6, 9]) (by kernel_rfl) (by simp) ?_
        intro kk hkk
        simp only [List.mem_cons, List.not_mem_nil, or_false] at hkk
        rcases hkk with rfl | rfl
        · refine appendV0 6 rfl rfl rfl _ _ 26 (by rfl) w2.heap.size 22 i0 (.slice none 0 0) 1 24 Try.underlying26 hi.out hz0 hz1 hz2 rfl (by decide) us k (pre.map fun x => hdV AM NM CM ((PI (ln P) n).getD x.val 0)) (by rfl) (own_ext hus.out hE_V1) (some ⟨q5, 0, none⟩) 1 1 [.slice ra d rc] (by rfl) (hR5) (by simp [Value.oneCell']) (by unfold maxLen; omega) (by omega) ((hX2Wh.out.trans hE_V1).size) ?_
          intro v6 V2 hown6 hgrow6 hat6
          have hS_V2 := hSC.out _ _ hS_V1 ((Chg.refl _ _).grown hgrow6 (fun k hk => Or.inl (by simp [hk])))
          refine ⟨fun _ => hS_V2, ?_⟩
          try simp only [List.setIfInBounds_toArray, List.set_cons_zero, List.set_cons_succ]
          have hE_x : Ext V2 V2 := Ext.refl _
          have hSn := hSX.out _ (V2.alloc (.cells #[.slice pa s pc] 22)) hS_V2 ((Ext.refl _).alloc _)
          refine valueD 9 (.slice (some ⟨V2.heap.size, 0, none⟩) 1 1) rfl rfl (by kernel_rfl) (by rfl) (w' := V2.alloc (.cells #[.slice pa s pc] 22)) (by go_simp) (fun _ => hSn) ?_
          try simp only [List.setIfInBounds_toArray, List.set_cons_zero, List.set_cons_succ]
          have hR9 : Rd (V2.alloc (.cells #[.slice pa s pc] 22)) 1 (.slice (some ⟨V2.heap.size, 0, none⟩) 1 1) 1 [.slice pa s pc] := rd_of_blkS (Blk.new V2 [.slice pa s pc] 22) rfl (by omega)
          have hE_V3 : Ext V2 (V2.alloc (.cells #[.slice pa s pc] 22)) := (Ext.refl _).alloc _
          have hF_V3 : Ext V2 (V2.alloc (.cells #[.slice pa s pc] 22)) := (Ext.refl _).alloc _
          obtain ⟨V3, hN⟩ : ∃ X, V2.alloc (.cells #[.slice pa s pc] 22) = X := ⟨_, rfl⟩
          obtain ⟨q9, hq9⟩ : ∃ X, V2.heap.size = X := ⟨_, rfl⟩
          rw [hN, hq9] at hR9
          rw [hN] at hSn hE_V3 hF_V3 ⊢
          rw [hq9]
          clear hN hq9
          have hS_V3 := hSn
          clear hSn
          have hub3 : V3.ownsRow w2.heap.size 22 1 (.slice uba k ubc) k (pre.map fun x => hdV A (ln P) C ((PI (ln P) n).getD x.val 0)) := own_ext (own_grow_other (own_ext hub.out hE_V1) hgrow6 (fun r hr => hdj.out r hr)) hF_V3
          have hbz3 : Ext w2 V3 := (Chg.ext ((Chg.of_ext [] (hX2Wh.out.trans hE_V1)).grown hgrow6 (fun y hy => Or.inr (own_lt hus.out hy).1))).trans hF_V3
          refine appendD 10 rfl rfl rfl (by kernel_rfl) _ _ 26 (by rfl) w2.heap.size 22 i0 (.slice none 0 0) 1 24 Try.underlying26 hi.out hz0 hz1 hz2 rfl (by decide) (.slice uba k ubc) k (pre.map fun x => hdV A (ln P) C ((PI (ln P) n).getD x.val 0)) (by rfl) (hub3) (some ⟨q9, 0, none⟩) 1 1 [.slice pa s pc] (by rfl) (hR9) (by simp [Value.oneCell']) (by unfold maxLen; omega) (by omega) (hbz3.size) (by omega) ?_
          intro v10 V9 hown10 hgrow10 hat10
          have hfin := hend.out V1 V2 V3 V9 v6 v10 hE_V1 hown6 hgrow6 hat6 hF_V3 hown10 hgrow10 hat10
          refine ⟨fun h => absurd (by simp) h, ?_⟩
          try simp only [List.setIfInBounds_toArray, List.set_cons_zero, List.set_cons_succ]
          obtain ⟨c8, f8, c9, f9, hpost⟩ := hfin
          obtain ⟨y6, z6, rfl, -⟩ := Rd.shape (Rd.of_own hown6)
          obtain ⟨y10, z10, rfl, -⟩ := Rd.shape (Rd.of_own hown10)
          refine storeD 11 rfl rfl (by kernel_rfl) (by rfl) (w' := V9.setCell ⟨s7 + 1, 0, none⟩ (.slice y6 (k + 1) z6)) (by go_simp) (fun h => absurd (by simp) h) ?_
          refine storeD 12 rfl rfl (by kernel_rfl) (by rfl) (w' := (V9.setCell ⟨s7 + 1, 0, none⟩ (.slice y6 (k + 1) z6)).setCell ⟨s7 + 1 + 1, 0, none⟩ (.slice y10 (k + 1) z10)) (by go_simp) (fun h => absurd (by simp) h) ?_
          refine wpAnyD_done (by kernel_rfl) ?_ _
          exact hpost
        · have hSn := hSX.out _ (V1.alloc (.cells #[.slice pa s pc] 22)) hS_V1 ((Ext.refl _).alloc _)
          refine valueV 9 (.slice (some ⟨V1.heap.size, 0, none⟩) 1 1) rfl rfl (by rfl) (w' := V1.alloc (.cells #[.slice pa s pc] 22)) (by go_simp) (fun _ => hSn) ?_
          try simp only [List.setIfInBounds_toArray, List.set_cons_zero, List.set_cons_succ]
          have hR9 : Rd (V1.alloc (.cells #[.slice pa s pc] 22)) 1 (.slice (some ⟨V1.heap.size, 0, none⟩) 1 1) 1 [.slice pa s pc] := rd_of_blkS (Blk.new V1 [.slice pa s pc] 22) rfl (by omega)
          have hE_V2 : Ext W (V1.alloc (.cells #[.slice pa s pc] 22)) := (hE_V1).alloc _
          have hF_V2 : Ext V1 (V1.alloc (.cells #[.slice pa s pc] 22)) := (Ext.refl _).alloc _
          have hn9 := hnew.out V1 (hE_V1)
          obtain ⟨V2, hN⟩ : ∃ X, V1.alloc (.cells #[.slice pa s pc] 22) = X := ⟨_, rfl⟩
          obtain ⟨q9, hq9⟩ : ∃ X, V1.heap.size = X := ⟨_, rfl⟩
          rw [hN, hq9] at hR9
          rw [hN] at hSn hE_V2 hF_V2 ⊢
          rw [hq9] at hn9 ⊢
          clear hN hq9
          have hS_V2 := hSn
          clear hSn
          refine appendD 6 rfl rfl rfl (by kernel_rfl) _ _ 26 (by rfl) w2.heap.size 22 i0 (.slice none 0 0) 1 24 Try.underlying26 hi.out hz0 hz1 hz2 rfl (by decide) us k (pre.map fun x => hdV AM NM CM ((PI (ln P) n).getD x.val 0)) (by rfl) (own_ext hus.out hE_V2) (some ⟨q5, 0, none⟩) 1 1 [.slice ra d rc] (by rfl) (Rd.ext hR5 hF_V2) (by simp [Value.oneCell']) (by unfold maxLen; omega) (by omega) ((hX2Wh.out.trans hE_V2).size) (by omega) ?_
          intro v6 V3 hown6 hgrow6 hat6
          have hS_V3 := hSC.out _ _ hS_V2 ((Chg.refl _ _).grown hgrow6 (fun k hk => Or.inl (by simp [hk])))
          refine ⟨fun _ => hS_V3, ?_⟩
          try simp only [List.setIfInBounds_toArray, List.set_cons_zero, List.set_cons_succ]
          have hR9b := Rd.chg hR9 ((Chg.refl us.ownBlock.toList V2).grown hgrow6 (fun k hk => Or.inl (by simp [hk]))) (fun x hx _ => hn9 x (by simpa using hx))
          have hub3 : V3.ownsRow w2.heap.size 22 1 (.slice uba k ubc) k (pre.map fun x => hdV A (ln P) C ((PI (ln P) n).getD x.val 0)) := own_ext (own_grow_other (own_ext hub.out hE_V2) hgrow6 (fun r hr => hdj.out r hr)) (Ext.refl _)
          have hbz3 : Ext w2 V3 := (Chg.ext ((Chg.of_ext [] (hX2Wh.out.trans hE_V2)).grown hgrow6 (fun y hy => Or.inr (own_lt hus.out hy).1))).trans (Ext.refl _)
          refine appendD 10 rfl rfl rfl (by kernel_rfl) _ _ 26 (by rfl) w2.heap.size 22 i0 (.slice none 0 0) 1 24 Try.underlying26 hi.out hz0 hz1 hz2 rfl (by decide) (.slice uba k ubc) k (pre.map fun x => hdV A (ln P) C ((PI (ln P) n).getD x.val 0)) (by rfl) (hub3) (some ⟨q9, 0, none⟩) 1 1 [.slice pa s pc] (by rfl) (hR9b) (by simp [Value.oneCell']) (by unfold maxLen; omega) (by omega) (hbz3.size) (by omega) ?_
          intro v10 V9 hown10 hgrow10 hat10
          have hfin := hend.out V2 V3 V3 V9 v6 v10 hE_V2 hown6 hgrow6 hat6 (Ext.refl _) hown10 hgrow10 hat10
          refine ⟨fun h => absurd (by simp) h, ?_⟩
          try simp only [List.setIfInBounds_toArray, List.set_cons_zero, List.set_cons_succ]
          obtain ⟨c8, f8, c9, f9, hpost⟩ := hfin
          obtain ⟨y6, z6, rfl, -⟩ := Rd.shape (Rd.of_own hown6)
          obtain ⟨y10, z10, rfl, -⟩ := Rd.shape (Rd.of_own hown10)
          refine storeD 11 rfl rfl (by kernel_rfl) (by rfl) (w' := V9.setCell ⟨s7 + 1, 0, none⟩ (.slice y6 (k + 1) z6)) (by go_simp) (fun h => absurd (by simp) h) ?_
          refine storeD 12 rfl rfl (by kernel_rfl) (by rfl) (w' := (V9.setCell ⟨s7 + 1, 0, none⟩ (.slice y6 (k + 1) z6)).setCell ⟨s7 + 1 + 1, 0, none⟩ (.slice y10 (k + 1) z10)) (by go_simp) (fun h => absurd (by simp) h) ?_
          refine wpAnyD_done (by kernel_rfl) ?_ _
          exact hpost
      · have hSn := hSX.out _ (V0.alloc (.cells #[.slice pa s pc] 22)) hS_V0 ((Ext.refl _).alloc _)
        refine valueV 9 (.slice (some ⟨V0.heap.size, 0, none⟩) 1 1) rfl rfl (by rfl) (w' := V0.alloc (.cells #[.slice pa s pc] 22)) (by go_simp) (fun _ => hSn) ?_
        try simp only [List.setIfInBounds_toArray, List.set_cons_zero, List.set_cons_succ]
        have hR9 : Rd (V0.alloc (.cells #[.slice pa s pc] 22)) 1 (.slice (some ⟨V0.heap.size, 0, none⟩) 1 1) 1 [.slice pa s pc] := rd_of_blkS (Blk.new V0 [.slice pa s pc] 22) rfl (by omega)
        have hE_V1 : Ext W (V0.alloc (.cells #[.slice pa s pc] 22)) := (hE0.out).alloc _
        have hF_V1 : Ext V0 (V0.alloc (.cells #[.slice pa s pc] 22)) := (Ext.refl _).alloc _
        have hn9 := hnew.out V0 (hE0.out)
        obtain ⟨V1, hN⟩ : ∃ X, V0.alloc (.cells #[.slice pa s pc] 22) = X := ⟨_, rfl⟩
        obtain ⟨q9, hq9⟩ : ∃ X, V0.heap.size = X := ⟨_, rfl⟩
        rw [hN, hq9] at hR9
        rw [hN] at hSn hE_V1 hF_V1 ⊢
        rw [hq9] at hn9 ⊢
        clear hN hq9
        have hS_V1 := hSn
        clear hSn
        have hSn := hSX.out _ (V1.alloc (.cells #[.slice ra d rc] 22)) hS_V1 ((Ext.refl _).alloc _)
        refine valueD 5 (.slice (some ⟨V1.heap.size, 0, none⟩) 1 1) rfl rfl (by kernel_rfl) (by rfl) (w' := V1.alloc (.cells #[.slice ra d rc] 22)) (by go_simp) (fun _ => hSn) ?_
        try simp only [List.setIfInBounds_toArray, List.set_cons_zero, List.set_cons_succ]
        have hR5 : Rd (V1.alloc (.cells #[.slice ra d rc] 22)) 1 (.slice (some ⟨V1.heap.size, 0, none⟩) 1 1) 1 [.slice ra d rc] := rd_of_blkS (Blk.new V1 [.slice ra d rc] 22) rfl (by omega)
        have hE_V2 : Ext W (V1.alloc (.cells #[.slice ra d rc] 22)) := (hE_V1).alloc _
        have hF_V2 : Ext V1 (V1.alloc (.cells #[.slice ra d rc] 22)) := (Ext.refl _).alloc _
        obtain ⟨V2, hN⟩ : ∃ X, V1.alloc (.cells #[.slice ra d rc] 22) = X := ⟨_, rfl⟩
        obtain ⟨q5, hq5⟩ : ∃ X, V1.heap.size = X := ⟨_, rfl⟩
        rw [hN, hq5] at hR5
        rw [hN] at hSn hE_V2 hF_V2 ⊢
        rw [hq5]
        clear hN hq5
        have hS_V2 := hSn
        clear hSn
        refine appendD 6 rfl rfl rfl (by kernel_rfl) _ _ 26 (by rfl) w2.heap.size 22 i0 (.slice none 0 0) 1 24 Try.underlying26 hi.out hz0 hz1 hz2 rfl (by decide) us k (pre.map fun x => hdV AM NM CM ((PI (ln P) n).getD x.val 0)) (by rfl) (own_ext hus.out hE_V2) (some ⟨q5, 0, none⟩) 1 1 [.slice ra d rc] (by rfl) (hR5) (by simp [Value.oneCell']) (by unfold maxLen; omega) (by omega) ((hX2Wh.out.trans hE_V2).size) (by omega) ?_
        intro v6 V3 hown6 hgrow6 hat6
        have hS_V3 := hSC.out _ _ hS_V2 ((Chg.refl _ _).grown hgrow6 (fun k hk => Or.inl (by simp [hk])))
        refine ⟨fun _ => hS_V3, ?_⟩
        try simp only [List.setIfInBounds_toArray, List.set_cons_zero, List.set_cons_succ]
        have hR9b := Rd.chg (Rd.ext hR9 hF_V2) ((Chg.refl us.ownBlock.toList V2).grown hgrow6 (fun k hk => Or.inl (by simp [hk]))) (fun x hx _ => hn9 x (by simpa using hx))
        have hub3 : V3.ownsRow w2.heap.size 22 1 (.slice uba k ubc) k (pre.map fun x => hdV A (ln P) C ((PI (ln P) n).getD x.val 0)) := own_ext (own_grow_other (own_ext hub.out hE_V2) hgrow6 (fun r hr => hdj.out r hr)) (Ext.refl _)
        have hbz3 : Ext w2 V3 := (Chg.ext ((Chg.of_ext [] (hX2Wh.out.trans hE_V2)).grown hgrow6 (fun y hy => Or.inr (own_lt hus.out hy).1))).trans (Ext.refl _)
        refine appendD 10 rfl rfl rfl (by kernel_rfl) _ _ 26 (by rfl) w2.heap.size 22 i0 (.slice none 0 0) 1 24 Try.underlying26 hi.out hz0 hz1 hz2 rfl (by decide) (.slice uba k ubc) k (pre.map fun x => hdV A (ln P) C ((PI (ln P) n).getD x.val 0)) (by rfl) (hub3) (some ⟨q9, 0, none⟩) 1 1 [.slice pa s pc] (by rfl) (hR9b) (by simp [Value.oneCell']) (by unfold maxLen; omega) (by omega) (hbz3.size) (by omega) ?_
        intro v10 V9 hown10 hgrow10 hat10
        have hfin := hend.out V2 V3 V3 V9 v6 v10 hE_V2 hown6 hgrow6 hat6 (Ext.refl _) hown10 hgrow10 hat10
        refine ⟨fun h => absurd (by simp) h, ?_⟩
        try simp only [List.setIfInBounds_toArray, List.set_cons_zero, List.set_cons_succ]
        obtain ⟨c8, f8, c9, f9, hpost⟩ := hfin
        obtain ⟨y6, z6, rfl, -⟩ := Rd.shape (Rd.of_own hown6)
        obtain ⟨y10, z10, rfl, -⟩ := Rd.shape (Rd.of_own hown10)
        refine storeD 11 rfl rfl (by kernel_rfl) (by rfl) (w' := V9.setCell ⟨s7 + 1, 0, none⟩ (.slice y6 (k + 1) z6)) (by go_simp) (fun h => absurd (by simp) h) ?_
        refine storeD 12 rfl rfl (by kernel_rfl) (by rfl) (w' := (V9.setCell ⟨s7 + 1, 0, none⟩ (.slice y6 (k + 1) z6)).setCell ⟨s7 + 1 + 1, 0, none⟩ (.slice y10 (k + 1) z10)) (by go_simp) (fun h => absurd (by simp) h) ?_
        refine wpAnyD_done (by kernel_rfl) ?_ _
        exact hpost
      -- END10
  case done =>
    rintro E ys W hD rfl ⟨⟨⟨⟨us, ub, ⟨b8, b9⟩, ⟨hus, hub⟩, hdj⟩, hlen⟩, b7, bB⟩, hX⟩ hK
    rw [List.length_finRange] at hlen
    have hT : ((List.finRange (PI (ln P) n).length).map fun x => (PI (ln P) n).getD x.val 0) = (PI (ln P) n).take d := by
      rw [← upF_all, up_map (Nat.le_refl _) _ rfl, List.take_of_length_le (Nat.le_refl _), List.take_of_length_le hlen]
    refine main E W us ub _ hT ?_ ?_ b8 b9 b7 hX hK (by rw [hsz.out] at hD; omega)
    · rw [List.length_map, List.map_map]; exact hus
    · rw [List.length_map, List.map_map]; exact hub
  case stop =>
    rintro E cd pre W hD ⟨kk, hkk, hpre⟩ ⟨ini, x, h1, h2, ⟨⟨⟨⟨us, ub, ⟨b8, b9⟩, ⟨hus, hub⟩, hdj⟩, hlen⟩, b7, bB⟩, hX⟩, rfl⟩ hK
    rw [h1] at hpre
    obtain ⟨g1, g2⟩ := up_snoc hkk hpre
    have hxd : x.val = d := by
      have := congrArg List.length g1
      rw [upF_len (Nat.le_of_lt x.isLt), h2] at this
      exact this.symm
    have hT : (ini.map fun x => (PI (ln P) n).getD x.val 0) = (PI (ln P) n).take d := by
      rw [g1, up_map (Nat.le_of_lt x.isLt) _ rfl, hxd]
    refine wpIn_wide.2 ?_
    go_wp2_with fail
    refine main E W us ub _ hT ?_ ?_ b8 b9 b7 hX hK (by rw [hsz.out] at hD; omega)
    · rw [List.length_map, List.map_map]; exact hus
    · rw [List.length_map, List.map_map]; exact hub
end Go.Proofs.Ytpfelklhejpnnaa
