/- Layer 18: the plain law of nesting: the reader and the machine with a stack agree. -/
import Derived.Test.YtcnbljohhajkhaaWb
namespace Go.Proofs.Ytcnbljohhajkhaa
set_option linter.unusedVariables false
set_option linter.unusedSimpArgs false

theorem op_drop {C R : List (Int × Int)} {x : Int × Int} {i : Nat} (h : C.drop i = x :: R) : i < C.length ∧ opAt C i = x.1 ∧ C.drop (i + 1) = R := by
  have hi : i < C.length := by
    apply Nat.lt_of_not_le
    intro hn
    rw [List.drop_of_length_le hn] at h
    cases h
  rw [List.drop_eq_getElem_cons hi] at h
  cases h
  exact ⟨hi, by simp [opAt, List.getD, List.getElem?_eq_getElem hi], rfl⟩
theorem sound_blk (C : List (Int × Int)) (f : Nat) (i d : Nat) (L : Bool) (P lv : List Int) (r : T × Nat × List Int × List Int) (hi : i < C.length) (hd : d ≤ 8) (hb : opAt C i = 27 ∨ opAt C i = 29) (h : blkF C (lstF C f) i (d + 1) L P lv = .ok r) :
    ∃ S : Sy, C.drop i = S.cod ++ C.drop r.2.1 ∧ S.wf L ∧ d + S.dep ≤ 8 ∧ r.2.1 = i + S.len ∧ r.2.1 ≤ C.length := by
  obtain ⟨b, j, P', lv'⟩ := r
  have hx : C.drop i = C[i] :: C.drop (i + 1) := List.drop_eq_getElem_cons (by omega)
  have ho : opAt C i = (C[i]).1 := (op_drop hx).2.1
  generalize C[i] = x at hx ho
  unfold blkF at h
  split at h
  · cases h
  next hd8 =>
  rw [ho] at h hb
  split at h
  · cases h
  next body j1 P1 lv1 h1 =>
  have g1 := lst_ge C f _ _ _ _ _ _ _ (by omega) h1
  obtain ⟨B, rb, b1, b2, b3, b4, b5⟩ := sound C f _ _ _ _ _ _ _ (by omega) (by omega) h1
  simp only at b5 g1
  have hdj : C.drop j1 = rb := by rw [b5, ← List.drop_drop, b1, ← Sy.len_cod]; simp
  split at h
  next hc =>
    obtain ⟨c1, c2, c3⟩ := hc
    split at h
    · cases h
    next oth k P2 lv2 h2 =>
    have g2 := lst_ge C f _ _ _ _ _ _ _ (by omega) h2
    obtain ⟨Cc, rc, d1, d2, d3, d4, d5⟩ := sound C f _ _ _ _ _ _ _ (by omega) (by omega) h2
    simp only at d5 g2
    have hy : C.drop j1 = C[j1] :: C.drop (j1 + 1) := List.drop_eq_getElem_cons c2
    have hyo : opAt C j1 = (C[j1]).1 := (op_drop hy).2.1
    generalize C[j1] = y at hy hyo
    have hdk : C.drop k = rc := by rw [d5, ← List.drop_drop, d1, ← Sy.len_cod]; simp
    unfold finF at h
    split at h
    next hk =>
      obtain ⟨hk1, hk2⟩ := hk
      simp only [Except.ok.injEq, Prod.mk.injEq] at h
      obtain ⟨-, rfl, -, -⟩ := h
      have hz : C.drop k = C[k] :: C.drop (k + 1) := List.drop_eq_getElem_cons hk1
      have hzo : opAt C k = (C[k]).1 := (op_drop hz).2.1
      generalize C[k] = z at hz hzo
      refine ⟨.ife x B y Cc z .nil, ?_, ⟨c1, by rw [← hyo]; exact c3, by rw [← hzo]; exact hk2, by simpa [c1] using b3, d3, trivial⟩, by simp only [Sy.dep]; omega, by simp only [Sy.len]; omega, by simp only; omega⟩
      rw [hx, b1, ← hdj, hy, d1, ← hdk, hz]
      simp [Sy.cod]
    · cases h
  next hc =>
    unfold finF at h
    split at h
    next hk =>
      obtain ⟨hk1, hk2⟩ := hk
      simp only [Except.ok.injEq, Prod.mk.injEq] at h
      obtain ⟨-, rfl, -, -⟩ := h
      have hz : C.drop j1 = C[j1] :: C.drop (j1 + 1) := List.drop_eq_getElem_cons hk1
      have hzo : opAt C j1 = (C[j1]).1 := (op_drop hz).2.1
      generalize C[j1] = z at hz hzo
      refine ⟨.blk x B z .nil, ?_, ⟨hb, by rw [← hzo]; exact hk2, b3, trivial⟩, by simp only [Sy.dep]; omega, by simp only [Sy.len]; omega, by simp only; omega⟩
      rw [hx, b1, ← hdj, hz]
      simp [Sy.cod]
    · cases h

theorem runM_pass (C : List (Int × Int)) (S : Sy) (rest : List (Int × Int)) (i : Nat) (st : Stk) (out : List Int) (hC : C.drop i = S.cod ++ rest) (hi : i ≤ C.length) (hw : S.wf (inLoop C st)) (hd : st.length + S.dep ≤ 8) (ho : out.length = C.length) :
    ∃ out2 : List Int, out2.length = C.length ∧ runM C (C.length - i) i st out = runM C (C.length - (i + S.len)) (i + S.len) st out2 := by
  have hl : C.length - i = S.len + rest.length := by rw [← List.length_drop, hC, List.length_append, Sy.len_cod]
  have e : C = C.take i ++ (S.cod ++ rest) := by rw [← hC, List.take_append_drop]
  have h := runM_sy C S (C.length - (i + S.len)) i st (out.take i) ((out.drop i).take S.len) ((out.drop i).drop S.len) (C.take i) rest e (by simp; omega) hw hd (by simp; omega) (by simp; omega)
  rw [List.take_append_drop, List.take_append_drop, show C.length - (i + S.len) + S.len = C.length - i by omega] at h
  exact ⟨_, by simp [Sy.len_prt]; omega, h⟩

theorem runM_err (C : List (Int × Int)) (f : Nat) : ∀ (i : Nat) (out : T) (P lv : List Int) (e : Nat) (st : Stk) (o : List Int), lstF C f i st.length (inLoop C st) out P lv = .error e → i ≤ C.length → C.length - i < f → st.length ≤ 8 → o.length = C.length → runM C (C.length - i) i st o = .error e := by
  induction f with
  | zero => intro i out P lv e st o h hi hf; omega
  | succ f ih =>
    intro i out P lv e st o h hi hf hd ho
    unfold lstF at h
    split at h
    · cases h
    next hlt =>
    split at h
    · cases h
    next hs =>
    have hm : C.length - i = (C.length - (i + 1)) + 1 := by omega
    split at h
    next hb =>
      have hpush : st.length < 8 → runM C (C.length - i) i st o = runM C (C.length - (i + 1)) (i + 1) ((i, -1) :: st) (o.set i (-1)) := fun h8 => by
        rw [hm, runM_succ]
        have : stepM C i st (o.set i (-1)) = some ((i, -1) :: st, o.set i (-1)) := by unfold stepM; rw [if_pos hb, if_neg (by omega)]
        rw [this]
      split at h
      next e' hbe =>
        cases h
        unfold blkF at hbe
        split at hbe
        next h8 =>
          cases hbe
          rw [hm, runM_succ]
          have : stepM C i st (o.set i (-1)) = none := by unfold stepM; rw [if_pos hb, if_pos (by omega)]
          rw [this]
        next h8 =>
        rw [hpush (by omega)]
        have hL : (inLoop C st || opAt C i == 29) = inLoop C ((i, -1) :: st) := by rw [Bool.or_comm]; rfl
        rw [hL] at hbe
        split at hbe
        next h1 =>
          cases hbe
          exact ih (i + 1) _ _ _ _ ((i, -1) :: st) _ h1 (by omega) (by omega) (by simp; omega) (by simp; omega)
        next body j1 P1 lv1 h1 =>
        have g1 := lst_ge C f _ _ _ _ _ _ _ (by omega) h1
        obtain ⟨B, rb, b1, b2, b3, b4, b5⟩ := sound C f _ _ _ _ _ _ _ (by omega) (by omega) h1
        simp only at b5 g1
        obtain ⟨o2, ho2, hrun⟩ := runM_pass C B rb (i + 1) ((i, -1) :: st) (o.set i (-1)) b1 (by omega) b3 (by simp; omega) (by simp; omega)
        rw [hrun, ← b5]
        have hdj : C.drop j1 = rb := by rw [b5, ← List.drop_drop, b1, ← Sy.len_cod]; simp
        rw [← hdj] at b2
        split at hbe
        next hc =>
          obtain ⟨c1, c2, c3⟩ := hc
          rw [show C.length - j1 = (C.length - (j1 + 1)) + 1 by omega, runM_succ]
          have : stepM C j1 ((i, -1) :: st) (o2.set j1 (-1)) = some ((i, (j1 : Int)) :: st, (o2.set j1 (-1)).set i j1) := by
            unfold stepM; rw [c3, if_neg (by omega), if_pos rfl]; simp only; rw [c1, if_neg (by omega)]
          rw [this]
          simp only
          split at hbe
          next h2 =>
            cases hbe
            refine ih (j1 + 1) .nil (P1.set i j1) lv1 _ ((i, (j1 : Int)) :: st) _ ?_ (by omega) (by omega) (by simp; omega) (by simp; omega)
            rw [show inLoop C ((i, (j1 : Int)) :: st) = inLoop C st by simp [inLoop, c1]]
            exact h2
          next oth k P2 lv2 h2 =>
          have g2 := lst_ge C f _ _ _ _ _ _ _ (by omega) h2
          obtain ⟨Cc, rc, d1, d2, d3, d4, d5⟩ := sound C f _ _ _ _ _ _ _ (by omega) (by omega) h2
          simp only at d5 g2
          obtain ⟨o3, ho3, hrun3⟩ := runM_pass C Cc rc (j1 + 1) ((i, (j1 : Int)) :: st) ((o2.set j1 (-1)).set i j1) d1 (by omega) (by rw [show inLoop C ((i, (j1 : Int)) :: st) = inLoop C st by simp [inLoop, c1]]; exact d3) (by simp; omega) (by simp; omega)
          rw [hrun3, ← d5]
          have hdk : C.drop k = rc := by rw [d5, ← List.drop_drop, d1, ← Sy.len_cod]; simp
          rw [← hdk] at d2
          unfold finF at hbe
          split at hbe
          · cases hbe
          next hk =>
          obtain rfl : k = e := by injection hbe
          rcases d2 with d2 | ⟨z, t, d2, hz⟩
          · have : C.length ≤ k := List.drop_eq_nil_iff.1 d2
            rw [show C.length - k = 0 by omega]
            unfold runM
            rw [if_neg (by simp)]
          · obtain ⟨z1, z2, z3⟩ := op_drop d2
            have hz28 : opAt C k = 28 := by rw [z2]; rcases hz with h | h; exact h; exact absurd ⟨z1, by rw [z2]; exact h⟩ hk
            rw [show C.length - k = (C.length - (k + 1)) + 1 by omega, runM_succ]
            have : ∀ w, stepM C k ((i, (j1 : Int)) :: st) w = none := fun w => by
              unfold stepM; rw [hz28, if_neg (by omega), if_pos rfl]; simp only; rw [if_pos (by omega)]
            rw [this]
        next hc =>
          unfold finF at hbe
          split at hbe
          · cases hbe
          next hk =>
          obtain rfl : j1 = e := by injection hbe
          rcases b2 with b2 | ⟨z, t, b2, hz⟩
          · have : C.length ≤ j1 := List.drop_eq_nil_iff.1 b2
            rw [show C.length - j1 = 0 by omega]
            unfold runM
            rw [if_neg (by simp)]
          · obtain ⟨z1, z2, z3⟩ := op_drop b2
            have hz28 : opAt C j1 = 28 := by rw [z2]; rcases hz with h | h; exact h; exact absurd ⟨z1, by rw [z2]; exact h⟩ hk
            rw [show C.length - j1 = (C.length - (j1 + 1)) + 1 by omega, runM_succ]
            have : ∀ w, stepM C j1 ((i, (-1 : Int)) :: st) w = none := fun w => by
              unfold stepM; rw [hz28, if_neg (by omega), if_pos rfl]; simp only; rw [if_pos (by left; intro h27; exact hc ⟨h27, z1, hz28⟩)]
            rw [this]
      next b j P' lv' hbo =>
        obtain ⟨S, a1, a2, a3, a4, a5⟩ := sound_blk C f i st.length _ _ _ _ (by omega) hd hb hbo
        simp only at a1 a4 a5
        obtain ⟨o2, ho2, hrun⟩ := runM_pass C S _ i st o a1 hi a2 (by omega) ho
        rw [hrun, ← a4]
        have hS : 0 < S.len := by
          rw [← Sy.len_cod]
          cases hc : S.cod with
          | nil =>
            exfalso
            have hj : j = i := by rw [a4, ← Sy.len_cod, hc]; simp
            subst hj
            unfold blkF at hbo
            split at hbo
            · cases hbo
            split at hbo
            · cases hbo
            next h1 =>
            have g1 := lst_ge C f _ _ _ _ _ _ _ (by omega) h1
            split at hbo
            · split at hbo
              · cases hbo
              next h2 =>
              have g2 := lst_ge C f _ _ _ _ _ _ _ (by omega) h2
              unfold finF at hbo
              split at hbo
              · simp only [Except.ok.injEq, Prod.mk.injEq] at hbo
                simp only at g1 g2
                omega
              · cases hbo
            · unfold finF at hbo
              split at hbo
              · simp only [Except.ok.injEq, Prod.mk.injEq] at hbo
                simp only at g1
                omega
              · cases hbo
          | cons => simp
        exact ih j _ _ _ _ st _ h a5 (by omega) hd ho2
    next hb =>
    split at h
    next h30 =>
      cases h
      rw [hm, runM_succ]
      have : ∀ w, stepM C i st w = none := fun w => by
        unfold stepM; rw [h30.1, if_neg (by omega), if_neg (by omega), if_pos rfl, if_neg (by rw [h30.2]; simp)]
      rw [this]
    next h30 =>
      rw [hm, runM_succ]
      have : ∀ w, stepM C i st w = some (st, w) := fun w => by
        unfold stepM
        rw [if_neg hb, if_neg (by omega)]
        by_cases h3 : opAt C i = 30
        · rw [if_pos h3, if_pos (by cases hc : inLoop C st with | true => rfl | false => exact absurd ⟨h3, hc⟩ h30)]
        · rw [if_neg h3, if_neg (by omega)]
      rw [this]
      exact ih (i + 1) _ _ _ _ st _ h (by omega) (by omega) hd (by simp; omega)

/-- The whole. -/
def wholeF (C : List (Int × Int)) : Except Nat (T × List Int) :=
  match lstF C (C.length + 1) 0 0 false .nil (List.replicate C.length (-1)) [] with
  | .error e => .error e
  | .ok (t, j, P, _) => if j = C.length then .ok (t, P) else .error j
theorem whole_of (S : Sy) (hw : S.wf false) (hd : S.dep ≤ 8) : wholeF S.cod = .ok (S.tr 0 .nil, S.prt true 0 (-1)) := by
  have h := complete S.cod S 0 false 0 (S.cod.length + 1) .nil [] [] [] [] [] (by simp) rfl (Or.inl rfl) hw (by omega) rfl (by omega)
  unfold wholeF
  simp only [List.nil_append, List.append_nil, Nat.zero_add] at h
  rw [Sy.len_cod] at h ⊢
  rw [h]
  simp
theorem whole_law (C : List (Int × Int)) : (∃ S : Sy, C = S.cod ∧ S.wf false ∧ S.dep ≤ 8 ∧ ∀ o : List Int, o.length = C.length → runM C C.length 0 [] o = .ok (S.prt false 0 (-1))) ∨
    (∃ e, wholeF C = .error e ∧ e ≤ C.length ∧ ∀ o : List Int, o.length = C.length → runM C C.length 0 [] o = .error e) := by
  cases h : lstF C (C.length + 1) 0 0 false .nil (List.replicate C.length (-1)) [] with
  | error e =>
    have he : e ≤ C.length := by
      have h1 := runM_err C _ 0 _ _ _ _ [] (List.replicate C.length 0) h (Nat.zero_le _) (by omega) (by simp) (by simp)
      have : ∀ (m i : Nat) (st : Stk) (o : List Int), runM C m i st o = .error e → e ≤ i + m := by
        intro m
        induction m with
        | zero => intro i st o h; unfold runM at h; split at h; cases h; cases h; omega
        | succ m ih =>
          intro i st o h
          rw [runM_succ] at h
          split at h
          · cases h; omega
          · have := ih _ _ _ h; omega
      have := this _ _ _ _ h1
      omega
    refine Or.inr ⟨e, by unfold wholeF; rw [h], he, fun o ho => ?_⟩
    have := runM_err C _ 0 _ _ _ _ [] o h (Nat.zero_le _) (by omega) (by simp) ho
    exact this
  | ok r =>
    obtain ⟨S, rest, a1, a2, a3, a4, a5⟩ := sound C _ _ _ _ _ _ _ _ (Nat.zero_le _) (by omega) h
    obtain ⟨t, j, P, lv⟩ := r
    simp only [Nat.zero_add] at a5
    simp only [List.drop_zero] at a1
    rcases a2 with rfl | ⟨x, R, rfl, hx⟩
    · refine Or.inl ⟨S, by simpa using a1, a3, by omega, fun o ho => ?_⟩
      have := runM_sy C S 0 0 [] [] o [] [] [] (by simpa using a1) rfl a3 (by simp; omega) rfl (by rw [ho, a1]; simp [Sy.len_cod])
      simp only [List.nil_append, List.append_nil, Nat.zero_add] at this
      rw [show C.length = S.len by rw [a1]; simp [Sy.len_cod], this]
      rfl
    · have hj : C.drop j = x :: R := by rw [a1, a5, ← Sy.len_cod]; simp
      obtain ⟨z1, z2, z3⟩ := op_drop hj
      refine Or.inr ⟨j, by unfold wholeF; rw [h]; simp only; rw [if_neg (by omega)], by omega, fun o ho => ?_⟩
      obtain ⟨o2, ho2, hr⟩ := runM_pass C S (x :: R) 0 [] o (by simpa using a1) (Nat.zero_le _) a3 (by simp; omega) ho
      rw [Nat.sub_zero, Nat.zero_add, ← a5] at hr
      rw [hr, show C.length - j = (C.length - (j + 1)) + 1 by omega, runM_succ]
      have : ∀ w, stepM C j [] w = none := fun w => by
        unfold stepM
        rw [z2]
        rcases hx with h | h
        · rw [if_neg (by omega), if_pos h]
        · rw [if_neg (by omega), if_neg (by omega), if_neg (by omega), if_pos h]
      rw [this]
end Go.Proofs.Ytcnbljohhajkhaa
