/- What is left of a set of volumes: plain. -/
import Derived.Test.YtpfelklhejpnnaaHpi
import Derived.Test.YtpfelklhejpnnaaHpc
import Derived.Test.YtpfelklhejpnnaaHbj
import Derived.Test.YtpfelklhejpnnaaHca
namespace Go.Proofs.Ytpfelklhejpnnaa
set_option linter.unusedVariables false
set_option linter.unusedSimpArgs false

theorem fullF_map (b : List Int) (d r : Nat) (hd : 1 ≤ d) (hb : Bytes b) : fullF b d r = (matF d r).map fun row => combF row (cutF b d (sizeF b.length d)) (sizeF b.length d) := by
  have hge := sizeF_ge b.length d hd
  obtain ⟨s, hs⟩ : ∃ s, sizeF b.length d = s := ⟨_, rfl⟩
  unfold fullF recF
  rw [hs] at hge ⊢
  rw [cutF_len]
  have e : ((List.range d).map (unitR d)).map (fun row => combF row (cutF b d s) s) = cutF b d s := by
    apply List.ext_getElem (by simp [cutF_len])
    intro i h1 h2
    have hi : i < d := by simpa using h1
    simp only [List.getElem_map, List.getElem_range]
    rw [comb_unit d i s _ hi (cutF_len b d s) (cutF_wide b d s hge) (cutF_bytes hb d s)]
    simp [List.getD, h2]
  have hm : matF d r = (List.range d).map (unitR d) ++ cauF r d := rfl
  rw [hm, List.map_append, e, List.drop_left' (by simp)]
theorem repK_same (P L : List (List Int)) : ∀ (T : List Nat), (∀ i ∈ T, i < L.length → P.getD i [] = L.getD i []) → repK P T L = L := by
  intro T
  induction T with
  | nil => intro _; rfl
  | cons i T ih =>
    intro h
    have e : L.set i (P.getD i []) = L := by
      by_cases hi : i < L.length
      · rw [h i (by simp) hi]
        simp [List.getD, hi]
      · exact List.set_eq_of_length_le (by omega)
    show repK P T (L.set i (P.getD i [])) = L
    rw [e]
    exact ih (fun j hj => h j (by simp [hj]))
theorem rep_full (b : List Int) (d r : Nat) (h1 : 1 ≤ d) (h6 : d ≤ 6) (hr : r ≤ 4) (hb : Bytes b) (P : List (List Int)) (hP : P.length = d + r) (hj : ∀ j, j < d + r → P.getD j [] = [] ∨ P.getD j [] = (fullF b d r).getD j []) (hp : d ≤ (PI (ln P) (d + r)).length) :
    InvOK (someF P d) d ∧ repF P d (sizeF b.length d) = fullF b d r := by
  have hge := sizeF_ge b.length d h1
  have hfm := fullF_map b d r h1 hb
  have hfl := fullF_len b d r
  obtain ⟨s, hs⟩ : ∃ s, sizeF b.length d = s := ⟨_, rfl⟩
  rw [hs] at hge hfm ⊢
  obtain ⟨T, hT⟩ : ∃ T, TI P d = T := ⟨_, rfl⟩
  have hTe : T = (PI (ln P) (d + r)).take d := by rw [← hT]; unfold TI; rw [hP]
  have hTl : T.length = d := by rw [hTe, List.length_take]; omega
  have hTs : T.Sublist (List.range (d + r)) := by rw [hTe]; exact (List.take_sublist _ _).trans List.filter_sublist
  have hTm : ∀ i ∈ T, i < d + r ∧ 0 < ln P i := fun i hi => by
    rw [hTe] at hi
    have := List.mem_of_mem_take hi
    unfold PI at this
    rw [List.mem_filter] at this
    exact ⟨by simpa using this.1, by simpa using this.2⟩
  have hok := ok_inv (ok_all d r h1 h6 hr T hTs hTl)
  have hsm : someF P d = kOf d r T := by unfold someF kOf; rw [hT, hP, show d + r - d = r by omega]
  have hF : ∀ i, i < d + r → (fullF b d r).getD i [] = combF ((matF d r).getD i []) (cutF b d s) s := fun i hi => by
    rw [hfm, map_getD (by rw [matF_len]; exact hi)]
  have hbas : basF P d = (kOf d r T).map fun kr => combF kr (cutF b d s) s := by
    unfold basF kOf
    rw [hT, List.map_map]
    refine List.map_congr_left fun i hi => ?_
    obtain ⟨g1, g2⟩ := hTm i hi
    rw [Function.comp, ← hF i g1]
    rcases hj i g1 with h | h
    · unfold ln at g2
      rw [h] at g2
      simp at g2
    · exact h
  have hKl : (kOf d r T).length = d := by unfold kOf; rw [List.length_map, hTl]
  have hKw : Wide (kOf d r T) d := fun l hl => by
    unfold kOf at hl
    obtain ⟨i, hi, rfl⟩ := List.mem_map.1 hl
    exact (matF_wide d r).at (by rw [matF_len]; exact (hTm i hi).1)
  have hKb : ∀ l ∈ kOf d r T, Bytes l := fun l hl => by
    unfold kOf at hl
    obtain ⟨i, hi, rfl⟩ := List.mem_map.1 hl
    exact matF_bytes d r _ (getD_mem (by rw [matF_len]; exact (hTm i hi).1) [])
  obtain ⟨⟨o1, o2, o3, o4⟩, o5⟩ := hok
  have horig : origF P d s = cutF b d s := by
    unfold origF
    rw [hsm, hbas]
    apply List.ext_getElem (by rw [List.length_map, o2, cutF_len])
    intro i h1' h2'
    have hi : i < d := by rw [cutF_len] at h2'; exact h2'
    have hri : i < (invF (kOf d r T) d).length := by rw [o2]; exact hi
    have e1 : (invF (kOf d r T) d)[i] = (invF (kOf d r T) d).getD i [] := by simp [List.getD, hri]
    rw [List.getElem_map, e1, comb_assoc _ _ _ d s (by rw [o3.at hri, hKl]) hKw (getD_bytes o4 i) hKb (cutF_bytes hb d s), o5 i hi, comb_unit d i s _ hi (cutF_len b d s) (cutF_wide b d s hge) (cutF_bytes hb d s)]
    simp [List.getD, h2']
  have hwh : wholeF P d s = fullF b d r := by
    unfold wholeF
    rw [horig, hP, show d + r - d = r by omega, ← hfm]
  refine ⟨by rw [hsm]; exact ⟨o1, o2, o3, o4⟩, ?_⟩
  unfold repF
  rw [hwh]
  refine repK_same P _ _ (fun i hi hil => ?_)
  rw [hfl] at hil
  unfold PI at hi
  rw [List.mem_filter] at hi
  have hpos : 0 < ln P i := by simpa using hi.2
  rcases hj i hil with h | h
  · unfold ln at hpos
    rw [h] at hpos
    simp at hpos
  · exact h

/-- What collect has behind some byte strings of which each is no volume, or one of the set's. -/
structure Inv (b : List Int) (d r : Nat) (Y : List (List Int)) (st : List Int × List (Int × List Int)) : Prop where
  head : st.2 ≠ [] → st.1 = headF b d r
  ent : ∀ e ∈ st.2, ∃ k : Nat, k < d + r ∧ e = ((k : Int), (fullF b d r).getD k [])
  pw : st.2.Pairwise (fun a b => a.1 ≠ b.1)
  iff : ∀ k, k < d + r → ((splitF b d r).getD k [] ∈ Y ↔ ∃ e ∈ st.2, e.1 = (k : Int))
theorem splitF_at (b : List Int) (d r k : Nat) (hk : k < d + r) : (splitF b d r).getD k [] = volF [(sumI b : Int), (k : Int), (d : Int), (r : Int), (b.length : Int)] ((fullF b d r).getD k []) := by
  unfold splitF
  rw [List.getD_eq_getElem?_getD, List.getElem?_map, List.getElem?_range hk]
  rfl
theorem hdF_split (b : List Int) (d r k : Nat) (h1 : 1 ≤ d) (hdr : d + r ≤ 64) (hn : b.length ≤ 1000) (hk : k < d + r) :
    hdF ((splitF b d r).getD k []) = (0, [(sumI b : Int), (k : Int), (d : Int), (r : Int), (b.length : Int)], (fullF b d r).getD k []) := by
  have hs := sumI_lt b
  have hw := (fullF_wide b d r h1).at (show k < (fullF b d r).length by rw [fullF_len]; exact hk)
  have hl := sizeF_le b.length d h1 1000 (by omega) hn
  rw [splitF_at b d r k hk]
  exact hdF_volF (sumI b) k d r b.length _ (by omega) (by omega) hdr hk (by omega) hw (by omega)
theorem split_inj {b : List Int} {d r k k' : Nat} (h1 : 1 ≤ d) (hdr : d + r ≤ 64) (hn : b.length ≤ 1000) (hk : k < d + r) (hk' : k' < d + r) (h : (splitF b d r).getD k [] = (splitF b d r).getD k' []) : k = k' := by
  have e := hdF_split b d r k h1 hdr hn hk
  rw [h, hdF_split b d r k' h1 hdr hn hk'] at e
  have := congrArg (fun x => x.2.1.getD 1 0) e
  simp at this
  omega
theorem inv_step {b : List Int} {d r : Nat} (h1 : 1 ≤ d) (hdr : d + r ≤ 64) (hn : b.length ≤ 1000) {Y : List (List Int)} {st : List Int × List (Int × List Int)} {x : List Int} (h : Inv b d r Y st) (hx : (hdF x).1 ≠ 0 ∨ x ∈ splitF b d r) : Inv b d r (Y ++ [x]) (colS st x) := by
  by_cases hm : x ∈ splitF b d r
  · obtain ⟨k, hk0, hkx⟩ := List.mem_iff_getElem.1 hm
    have hk : k < d + r := by rw [splitF_len] at hk0; exact hk0
    have hkx' : (splitF b d r).getD k [] = x := by rw [List.getD_eq_getElem?_getD, List.getElem?_eq_getElem hk0]; exact hkx
    have hh := hdF_split b d r k h1 hdr hn hk
    rw [hkx'] at hh
    unfold colS
    rw [hh]
    simp only
    rw [if_neg (by simp)]
    have hset : [(sumI b : Int), (k : Int), (d : Int), (r : Int), (b.length : Int)].set 1 0 = headF b d r := rfl
    have hget : [(sumI b : Int), (k : Int), (d : Int), (r : Int), (b.length : Int)].getD 1 0 = (k : Int) := rfl
    rw [hset, hget]
    have hmem : ∀ j, j < d + r → ((splitF b d r).getD j [] ∈ Y ++ [x] ↔ ((splitF b d r).getD j [] ∈ Y ∨ j = k)) := fun j hj => by
      rw [List.mem_append, List.mem_singleton]
      constructor
      · rintro (h' | h')
        · exact Or.inl h'
        · exact Or.inr (split_inj h1 hdr hn hj hk (by rw [h', hkx']))
      · rintro (h' | rfl)
        · exact Or.inl h'
        · exact Or.inr hkx'
    by_cases he : st.2 = []
    · rw [if_pos he]
      refine ⟨fun _ => rfl, fun e hem => ?_, List.pairwise_singleton _ _, fun j hj => ?_⟩
      · simp at hem; exact ⟨k, hk, hem⟩
      · rw [hmem j hj, h.iff j hj, he]
        simp
        omega
    · rw [if_neg he]
      have hs5 : same5 [(sumI b : Int), (k : Int), (d : Int), (r : Int), (b.length : Int)] st.1 := by rw [h.head he]; exact ⟨rfl, rfl, rfl, rfl, rfl⟩
      by_cases hth : ∃ e ∈ st.2, e.1 = (k : Int)
      · rw [if_neg (fun hc => hc.2 hth)]
        refine ⟨h.head, h.ent, h.pw, fun j hj => ?_⟩
        rw [hmem j hj, h.iff j hj]
        constructor
        · rintro (h' | rfl)
          · exact h'
          · exact hth
        · exact Or.inl
      · rw [if_pos ⟨hs5, hth⟩]
        refine ⟨fun _ => h.head he, fun e hem => ?_, ?_, fun j hj => ?_⟩
        · rcases List.mem_append.1 hem with h' | h'
          · exact h.ent e h'
          · simp at h'; exact ⟨k, hk, h'⟩
        · rw [List.pairwise_append]
          refine ⟨h.pw, List.pairwise_singleton _ _, fun a ha c hc => ?_⟩
          simp at hc
          subst hc
          exact fun e => hth ⟨a, ha, e⟩
        · rw [hmem j hj, h.iff j hj]
          constructor
          · rintro (⟨e, he', hej⟩ | rfl)
            · exact ⟨e, List.mem_append.2 (Or.inl he'), hej⟩
            · exact ⟨(((j : Nat) : Int), (fullF b d r).getD j []), List.mem_append.2 (Or.inr (List.mem_singleton.2 rfl)), rfl⟩
          · rintro ⟨e, he', hej⟩
            rcases List.mem_append.1 he' with h' | h'
            · exact Or.inl ⟨e, h', hej⟩
            · simp at h'
              subst h'
              exact Or.inr (by have hej2 : (k : Int) = (j : Int) := hej; omega)
  · have h0 : (hdF x).1 ≠ 0 := by
      rcases hx with h' | h'
      · exact h'
      · exact absurd h' hm
    have : colS st x = st := by unfold colS; rw [if_pos h0]
    rw [this]
    refine ⟨h.head, h.ent, h.pw, fun j hj => ?_⟩
    rw [← h.iff j hj, List.mem_append, List.mem_singleton]
    constructor
    · rintro (h' | h')
      · exact h'
      · exact absurd (h' ▸ getD_mem (by rw [splitF_len]; exact hj) []) hm
    · exact Or.inl
theorem inv_fold {b : List Int} {d r : Nat} (h1 : 1 ≤ d) (hdr : d + r ≤ 64) (hn : b.length ≤ 1000) : ∀ (X Y : List (List Int)) (st : List Int × List (Int × List Int)), Inv b d r Y st → (∀ x ∈ X, (hdF x).1 ≠ 0 ∨ x ∈ splitF b d r) → Inv b d r (Y ++ X) (X.foldl colS st)
  | [], Y, st, h, _ => by simpa using h
  | x :: X, Y, st, h, hx => by
    have := inv_fold h1 hdr hn X (Y ++ [x]) (colS st x) (inv_step h1 hdr hn h (hx x (by simp))) (fun y hy => hx y (by simp [hy]))
    simpa using this
theorem inv_col {b : List Int} {d r : Nat} (h1 : 1 ≤ d) (hdr : d + r ≤ 64) (hn : b.length ≤ 1000) (X : List (List Int)) (hx : ∀ x ∈ X, (hdF x).1 ≠ 0 ∨ x ∈ splitF b d r) : Inv b d r X (colF X) := by
  have := inv_fold h1 hdr hn X [] (z5, []) ⟨fun h => absurd rfl h, fun e he => (by cases he), List.Pairwise.nil, fun k hk => by simp⟩ hx
  simpa [colF] using this
theorem lookP_some : ∀ {es : List (Int × List Int)} {j : Int} {e : Int × List Int}, es.Pairwise (fun a b => a.1 ≠ b.1) → e ∈ es → e.1 = j → lookP es j = e.2
  | x :: es, j, e, hp, he, hj => by
    obtain ⟨p1, p2⟩ := List.pairwise_cons.1 hp
    unfold lookP
    rw [List.find?_cons]
    by_cases hx : x.1 = j
    · have : x = e := by
        rcases List.mem_cons.1 he with h | h
        · exact h.symm
        · exact absurd (by rw [hx, hj]) (p1 e h)
      rw [show (x.1 == j) = true by simp [hx]]
      rw [this]
    · rw [show (x.1 == j) = false by simp [hx]]
      rcases List.mem_cons.1 he with h | h
      · exact absurd (h ▸ hj) hx
      · exact lookP_some p2 h hj
theorem lookP_none {es : List (Int × List Int)} {j : Int} (h : ¬ ∃ e ∈ es, e.1 = j) : lookP es j = [] := by
  unfold lookP
  rw [List.find?_eq_none.2 (fun e he => by simp; exact fun hj => h ⟨e, he, hj⟩)]
theorem allF_at (es : List (Int × List Int)) (N k : Nat) (hk : k < N) : (allF es N).getD k [] = lookP es (k : Int) := by
  unfold allF
  rw [List.getD_eq_getElem?_getD, List.getElem?_map, List.getElem?_range hk]
  rfl
theorem inv_look {b : List Int} {d r : Nat} {X : List (List Int)} {st : List Int × List (Int × List Int)} (h : Inv b d r X st) {k : Nat} (hk : k < d + r) : (allF st.2 (d + r)).getD k [] = if (splitF b d r).getD k [] ∈ X then (fullF b d r).getD k [] else [] := by
  rw [allF_at _ _ _ hk]
  by_cases hm : (splitF b d r).getD k [] ∈ X
  · rw [if_pos hm]
    obtain ⟨e, he, hek⟩ := (h.iff k hk).1 hm
    obtain ⟨j, hj, hej⟩ := h.ent e he
    have : j = k := by rw [hej] at hek; have hek2 : (j : Int) = (k : Int) := hek; omega
    rw [lookP_some h.pw he hek, hej, this]
  · rw [if_neg hm]
    exact lookP_none (fun hc => hm ((h.iff k hk).2 hc))
theorem setOK_of {b : List Int} {d r : Nat} (h1 : 1 ≤ d) (h6 : d ≤ 6) (hr : r ≤ 4) (hb : Bytes b) {X : List (List Int)} {st : List Int × List (Int × List Int)} (h : Inv b d r X st) : SetOK b d r st.2 := by
  have hlook := fun k hk => inv_look h (k := k) hk
  have hget : ∀ l ∈ allF st.2 (d + r), l = [] ∨ ∃ k, k < d + r ∧ l = (fullF b d r).getD k [] := fun l hl => by
    obtain ⟨k, hk, rfl⟩ := List.mem_iff_getElem.1 hl
    rw [allF_len] at hk
    have := hlook k hk
    rw [List.getD_eq_getElem?_getD, List.getElem?_eq_getElem (by rw [allF_len]; exact hk)] at this
    simp only [Option.getD_some] at this
    rw [this]
    by_cases hm : (splitF b d r).getD k [] ∈ X
    · rw [if_pos hm]; exact Or.inr ⟨k, hk, rfl⟩
    · rw [if_neg hm]; exact Or.inl rfl
  refine ⟨fun e he => ?_, h.pw, fun l hl => ?_, fun l hl => ?_, fun hp => ?_⟩
  · obtain ⟨k, hk, rfl⟩ := h.ent e he
    exact ⟨k, rfl, hk⟩
  · rcases hget l hl with h' | ⟨k, hk, rfl⟩
    · exact Or.inl h'
    · exact Or.inr ((fullF_wide b d r h1).at (by rw [fullF_len]; exact hk))
  · rcases hget l hl with rfl | ⟨k, hk, rfl⟩
    · intro x hx; cases hx
    · exact getD_bytes (fullF_bytes hb d r) k
  · exact rep_full b d r h1 h6 hr hb _ (allF_len _ _) (fun j hj => by
      rw [hlook j hj]
      by_cases hm : (splitF b d r).getD j [] ∈ X
      · rw [if_pos hm]; exact Or.inr rfl
      · rw [if_neg hm]; exact Or.inl rfl) hp
theorem MI_PI (P : List (List Int)) : ∀ k, (MI P k).length + (PI (ln P) k).length = k
  | 0 => rfl
  | k + 1 => by
    have ih := MI_PI P k
    by_cases h : ln P k = 0
    · rw [MI_yes h, PI_no (by omega), List.length_append, List.length_singleton]; omega
    · rw [MI_no h, PI_yes (by omega), List.length_append, List.length_singleton]; omega
theorem notP_MI {b : List Int} {d r : Nat} (h1 : 1 ≤ d) {X : List (List Int)} {st : List Int × List (Int × List Int)} (h : Inv b d r X st) : (MI (allF st.2 (d + r)) (d + r)).length = notP (splitF b d r) X := by
  have key : ∀ k, k ≤ d + r → (MI (allF st.2 (d + r)) k).length = notP ((splitF b d r).take k) X := by
    intro k
    induction k with
    | zero => intro _; rfl
    | succ k ih =>
      intro hk
      rw [notP_succ _ _ _ (by rw [splitF_len]; omega), ← ih (by omega)]
      have hl := inv_look h (show k < d + r by omega)
      by_cases hm : (splitF b d r).getD k [] ∈ X
      · rw [if_pos hm] at hl ⊢
        have : ¬ ln (allF st.2 (d + r)) k = 0 := by
          unfold ln
          rw [hl, (fullF_wide b d r h1).at (by rw [fullF_len]; omega)]
          have := sizeF_pos b.length d
          omega
        rw [MI_no this, Nat.add_zero]
      · rw [if_neg hm] at hl ⊢
        have : ln (allF st.2 (d + r)) k = 0 := by unfold ln; rw [hl]; rfl
        rw [MI_yes this, List.length_append, List.length_singleton]
  have := key (d + r) (Nat.le_refl _)
  rwa [List.take_of_length_le (by rw [splitF_len]; exact Nat.le_refl _)] at this
end Go.Proofs.Ytpfelklhejpnnaa

/- What Join, Repair and Missing return of what is left: plain. -/
namespace Go.Proofs.Ytpfelklhejpnnaa
open Go.RowKit
set_option linter.unusedVariables false
set_option linter.unusedSimpArgs false

theorem pres_not {b : List Int} {d r : Nat} (h1 : 1 ≤ d) {X : List (List Int)} (h : Inv b d r X (colF X)) : pres (colF X).2 (d + r) + notP (splitF b d r) X = d + r := by
  have h2 := MI_PI (allF (colF X).2 (d + r)) (d + r)
  have h3 := notP_MI h1 h
  unfold pres
  omega
theorem none_iff {b : List Int} {d r : Nat} (h1 : 1 ≤ d) {X : List (List Int)} (h : Inv b d r X (colF X)) : (colF X).2 = [] ↔ notP (splitF b d r) X = d + r := by
  have hp := pres_not h1 h
  constructor
  · intro he
    have : pres (colF X).2 (d + r) = 0 := by
      unfold pres PI
      rw [List.length_eq_zero_iff, List.filter_eq_nil_iff]
      intro k hk
      rw [List.mem_range] at hk
      have e := allF_at (colF X).2 (d + r) k hk
      rw [he] at e ⊢
      unfold ln
      rw [e]
      simp [lookP]
    omega
  · intro hn
    cases he : (colF X).2 with
    | nil => rfl
    | cons e es =>
      obtain ⟨k, hk, hek⟩ := h.ent e (by rw [he]; simp)
      have hm := (h.iff k hk).2 ⟨e, by rw [he]; simp, by rw [hek]⟩
      have hl := inv_look h hk
      rw [if_pos hm] at hl
      have hpos : 0 < ln (allF (colF X).2 (d + r)) k := by
        unfold ln
        rw [hl, (fullF_wide b d r h1).at (by rw [fullF_len]; exact hk)]
        exact sizeF_pos _ _
      have : 0 < pres (colF X).2 (d + r) := by
        unfold pres PI
        exact List.length_pos_of_mem (List.mem_filter.2 ⟨List.mem_range.2 hk, by simpa using hpos⟩)
      omega
theorem leftOK_of {b : List Int} {d r : Nat} (h1 : 1 ≤ d) (h6 : d ≤ 6) (hr : r ≤ 4) (hb : Bytes b) {X : List (List Int)} (h : Inv b d r X (colF X)) (hf : X.length ≤ 128) (hB : ∀ l ∈ X, Bytes l) (hl : ∀ l ∈ X, l.length ≤ 900000) : LeftOK b d r X :=
  ⟨hf, hB, hl, fun he => ⟨h.head he, setOK_of h1 h6 hr hb h⟩⟩
/-- The three cases, one for each number of lost volumes. -/
theorem vj_of {b : List Int} {d r : Nat} (h1 : 1 ≤ d) {X : List (List Int)} (h : Inv b d r X (colF X)) {w w' : World} {e : Ending} (hv : VJ w b d r X e w') :
    (notP (splitF b d r) X = d + r ∧ e = .returned (.tuple #[.slice none 0 0, .int .i64 7]) ∧ Ext w w') ∨ (r < notP (splitF b d r) X ∧ notP (splitF b d r) X ≠ d + r ∧ e = .returned (.tuple #[.slice none 0 0, .int .i64 26]) ∧ Ext w w') ∨
    (notP (splitF b d r) X ≤ r ∧ ∃ v, e = .returned (.tuple #[v, .int .i64 0]) ∧ Rd8 w' v b ∧ Ext w w') := by
  have hp := pres_not h1 h
  have hn := none_iff h1 h
  rcases hv with ⟨g1, g2, g3⟩ | ⟨g1, ⟨g2, g3, g4⟩ | ⟨g2, v, g3, g4, g5⟩⟩
  · exact Or.inl ⟨hn.1 g1, g2, g3⟩
  · exact Or.inr (Or.inl ⟨by omega, fun hc => g1 (hn.2 hc), g3, g4⟩)
  · exact Or.inr (Or.inr ⟨by omega, v, g3, g4, g5⟩)
theorem vr_of {b : List Int} {d r : Nat} (h1 : 1 ≤ d) {X : List (List Int)} (h : Inv b d r X (colF X)) {w w' : World} {e : Ending} (hv : VR w b d r X e w') :
    (notP (splitF b d r) X = d + r ∧ e = .returned (.tuple #[.slice none 0 0, .int .i64 7]) ∧ Ext w w') ∨ (r < notP (splitF b d r) X ∧ notP (splitF b d r) X ≠ d + r ∧ e = .returned (.tuple #[.slice none 0 0, .int .i64 26]) ∧ Ext w w') ∨
    (notP (splitF b d r) X ≤ r ∧ ∃ v, e = .returned (.tuple #[v, .int .i64 0]) ∧ RL w' v (splitF b d r) ∧ Ext w w') := by
  have hp := pres_not h1 h
  have hn := none_iff h1 h
  rcases hv with ⟨g1, g2, g3⟩ | ⟨g1, g2, g3, g4⟩ | ⟨g1, g2, v, g3, g4, g5⟩
  · exact Or.inl ⟨hn.1 g1, g2, g3⟩
  · exact Or.inr (Or.inl ⟨by omega, fun hc => g1 (hn.2 hc), g3, g4⟩)
  · exact Or.inr (Or.inr ⟨by omega, v, g3, g4, g5⟩)
theorem vm_of {b : List Int} {d r : Nat} (h1 : 1 ≤ d) {X : List (List Int)} (h : Inv b d r X (colF X)) {w w' : World} {e : Ending} (hv : VM w b d r X e w') :
    (notP (splitF b d r) X = d + r ∧ e = .returned (.tuple #[.slice none 0 0, .int .i64 7]) ∧ Ext w w') ∨
    (notP (splitF b d r) X ≠ d + r ∧ ∃ v, e = .returned (.tuple #[v, .int .i64 0]) ∧ Rd w' 1 v (notP (splitF b d r) X) (iv (MI (allF (colF X).2 (d + r)) (d + r))) ∧ Ext w w') := by
  have hn := none_iff h1 h
  have hm := notP_MI h1 h
  rcases hv with ⟨g1, g2, g3⟩ | ⟨g1, v, g2, g3, g4⟩
  · exact Or.inl ⟨hn.1 g1, g2, g3⟩
  · exact Or.inr ⟨fun hc => g1 (hn.2 hc), v, g2, by rw [hm] at g3; exact g3, g4⟩
end Go.Proofs.Ytpfelklhejpnnaa
