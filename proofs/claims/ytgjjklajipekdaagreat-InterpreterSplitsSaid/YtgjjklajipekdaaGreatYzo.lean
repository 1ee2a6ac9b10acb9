/- Layer 22: feeding is running byte by byte: the plain part. -/
import Derived.Test.YtgjjklajipekdaaGreatYzn
namespace Go.Proofs.YtgjjklajipekdaaGreat
open Go.RowKit
set_option linter.unusedVariables false
set_option linter.unusedSimpArgs false

/-- An instruction puts out one byte at most, and only OpEmit does. -/
def Oo (op : Int) (s : MS) (r : Rs) : Prop := ∀ t, r = .go t → t.out.length ≤ s.out.length + 1 ∧ (op ≠ 34 → t.out = s.out)
theorem Oo.stuck {op : Int} {s : MS} : Oo op s .stuck := fun _ h => by cases h
theorem Oo.err {op : Int} {s : MS} (e : Int) : Oo op s (.err e) := fun _ h => by cases h
theorem Oo.go {op : Int} {s t : MS} (h : t.out = s.out) : Oo op s (.go t) := fun _ e => by cases e; exact ⟨by rw [h]; omega, fun _ => h⟩
theorem Oo.push (op : Int) (s : MS) (l : List Vl) : Oo op s (pushF l s) := by
  unfold pushF
  exact ite_both (Oo op s) (fun _ => Oo.err _) (fun _ => Oo.go rfl)
theorem Oo.tick {op : Int} {E : Env} {s s1 : MS} (h : s1.out = s.out) : Oo op s (tickF E s1) := by
  unfold tickF
  exact ite_both (Oo op s) (fun _ => Oo.go h) (fun _ => Oo.err _)
theorem exe_out (E : Env) (op arg : Int) (l : List Vl) (s : MS) : Oo op s (exeF E op arg l s) := by
  unfold exeF
  refine ite_both (Oo op s) (fun _ => Oo.push _ _ _) (fun _ => ?_)
  refine ite_both (Oo op s) (fun _ => Oo.push _ _ _) (fun _ => ?_)
  refine ite_both (Oo op s) (fun _ => Oo.go rfl) (fun _ => ?_)
  refine ite_both (Oo op s) (fun _ => ?_) (fun _ => ?_)
  · unfold getF
    exact ite_both (Oo op s) (fun _ => Oo.err _) (fun _ => Oo.push _ _ _)
  refine ite_both (Oo op s) (fun _ => ?_) (fun _ => ?_)
  · unfold putF
    exact ite_both (Oo op s) (fun _ => Oo.err _) (fun _ => Oo.go rfl)
  refine ite_both (Oo op s) (fun _ => Oo.push _ _ _) (fun _ => ?_)
  refine ite_both (Oo op s) (fun _ => Oo.go rfl) (fun _ => ?_)
  refine ite_both (Oo op s) (fun _ => Oo.push _ _ _) (fun _ => ?_)
  refine ite_both (Oo op s) (fun _ => ?_) (fun _ => ?_)
  · unfold chooseF
    refine ite_both (Oo op s) (fun _ => Oo.stuck) (fun _ => ite_both (Oo op s) (fun _ => Oo.go rfl) (fun _ => ?_))
    split
    · exact Oo.stuck
    · exact ite_both (Oo op s) (fun _ => Oo.go rfl) (fun _ => ite_both (Oo op s) (fun _ => Oo.go rfl) (fun _ => Oo.stuck))
  refine ite_both (Oo op s) (fun _ => ?_) (fun _ => ?_)
  · unfold otherF
    split
    · exact Oo.stuck
    · refine ite_both (Oo op s) (fun _ => Oo.err _) (fun _ => ?_)
      split
      · exact Oo.stuck
      · exact ite_both (Oo op s) (fun _ => Oo.go rfl) (fun _ => Oo.stuck)
  refine ite_both (Oo op s) (fun _ => ?_) (fun _ => ?_)
  · unfold loopF
    refine ite_both (Oo op s) (fun _ => Oo.err _) (fun _ => ite_both (Oo op s) (fun _ => ?_) (fun _ => ite_both (Oo op s) (fun _ => Oo.stuck) (fun _ => Oo.tick rfl)))
    split
    · exact Oo.stuck
    · exact Oo.go rfl
  refine ite_both (Oo op s) (fun _ => ?_) (fun _ => ?_)
  · unfold leaveF
    split
    · exact Oo.stuck
    · refine ite_both (Oo op s) (fun _ => Oo.err _) (fun _ => ite_both (Oo op s) (fun _ => Oo.go rfl) (fun _ => ?_))
      split
      · exact Oo.stuck
      · exact Oo.go rfl
  refine ite_both (Oo op s) (fun _ => ?_) (fun _ => ?_)
  · unfold endF
    split
    · exact Oo.stuck
    · refine ite_both (Oo op s) (fun _ => Oo.err _) (fun _ => ite_both (Oo op s) (fun _ => Oo.tick rfl) (fun _ => Oo.go rfl))
  refine ite_both (Oo op s) (fun _ => Oo.push _ _ _) (fun _ => ?_)
  refine ite_both (Oo op s) (fun _ => Oo.push _ _ _) (fun _ => ?_)
  refine ite_both (Oo op s) (fun h => ?_) (fun _ => ?_)
  · unfold emitF
    refine ite_both (Oo op s) (fun _ => ?_) (fun _ => Oo.err _)
    intro t e
    cases e
    exact ⟨by simp, fun g => absurd h g⟩
  refine ite_both (Oo op s) (fun _ => Oo.go rfl) (fun _ => ?_)
  unfold calcF
  exact ite_both (Oo op s) (fun _ => Oo.err _) (fun _ => Oo.push _ _ _)
theorem step_out {E : Env} {s t : MS} (h : stepF E s = .go t) : (t.out.length : Int) - t.steps ≤ (s.out.length : Int) - s.steps := by
  unfold stepF at h
  by_cases h1 : ¬ (opS E s = 28 ∨ opS E s = 31) ∧ ¬ s.steps < E.fuel
  · rw [if_pos h1] at h; cases h
  · rw [if_neg h1] at h
    by_cases h2 : exiF E (opS E s) (argS E s) = false
    · rw [if_pos h2] at h; cases h
    · rw [if_neg h2] at h
      cases hp : popF (opAt (opS E s)).2.1.data.toList s.st (baseF s.fr) with
      | error e => rw [hp] at h; cases h
      | ok lr =>
        obtain ⟨l, r⟩ := lr
        rw [hp] at h
        simp only at h
        have hs1 : (s1F E s r).steps = if opS E s = 28 ∨ opS E s = 31 then s.steps else s.steps + 1 := rfl
        have ho1 : (s1F E s r).out = s.out := rfl
        cases hx : exeF E (opS E s) (argS E s) l (s1F E s r) with
        | stuck => rw [hx] at h; cases h
        | err e => rw [hx] at h; cases h
        | go t' =>
          rw [hx] at h
          unfold nextF at h
          cases h
          obtain ⟨q1, q2⟩ := exe_out E _ _ _ _ t' hx
          have q3 := exe_steps t' hx
          rw [ho1] at q1 q2
          show (t'.out.length : Int) - t'.steps ≤ _
          by_cases h3 : opS E s = 28 ∨ opS E s = 31
          · rw [if_pos h3] at hs1
            have h4 : opS E s ≠ 34 := by omega
            rw [q2 h4]
            omega
          · rw [if_neg h3] at hs1
            omega
theorem run_out {E : Env} : ∀ (n : Nat) (s : MS) (ar : List (List Int)) (cx out : List Int) (st : Int), runN E n s = some (.ok (ar, cx, out, st)) → (out.length : Int) - st ≤ (s.out.length : Int) - s.steps
  | 0, s, ar, cx, out, st, h => by cases h
  | n + 1, s, ar, cx, out, st, h => by
    unfold runN at h
    by_cases h1 : (E.C.length : Int) ≤ s.pc
    · rw [if_pos h1] at h
      by_cases h2 : s.st = []
      · rw [if_pos h2] at h
        simp only [Option.some.injEq, Except.ok.injEq, Prod.mk.injEq] at h
        obtain ⟨rfl, rfl, rfl, rfl⟩ := h
        exact Int.le_refl _
      · rw [if_neg h2] at h
        simp at h
    · rw [if_neg h1] at h
      cases hx : stepF E s with
      | stuck => rw [hx] at h; cases h
      | err e => rw [hx] at h; simp at h
      | go t =>
        rw [hx] at h
        have := step_out hx
        have := run_out n t ar cx out st h
        omega
/-- What is known between two runs of the law's loop: F is what Feed returns. -/
structure SpL (A : List (Bool × Int)) (L : Int) (C : List (Int × Int)) (D : List Int) (R : Out) (k : Nat) (ar : List (List Int)) (cx out : List Int) (st : Int) : Prop where
  mid : Mid A ar cx out st 3000
  ol : (out.length : Int) ≤ st
  or : (usE A L C = 0 ∧ feedF A L C D 3000 (D.length + 1 - k) k ar cx out st = R) ∨ (usE A L C ≠ 0 ∧ k ≤ D.length ∧ R = .error (usE A L C))
theorem sp_start {A : List (Bool × Int)} {L : Int} {C : List (Int × Int)} {D : List Int} (hf : formE A L C = 0) (hD : D.length ≤ 20) : SpL A L C D (feedR A L C D 3000) 0 (zerosA A) (List.replicate 16 0) [] 0 := by
  refine ⟨mid_start (formE_ok hf).2.1 (by decide) (by decide), by simp, ?_⟩
  unfold feedR
  by_cases hu : usE A L C = 0
  · rw [if_neg (by simpa using hu), if_neg (by omega), if_pos ⟨by decide, by decide⟩]
    exact Or.inl ⟨hu, rfl⟩
  · rw [if_pos (by simpa using hu)]
    exact Or.inr ⟨hu, by omega, rfl⟩
theorem usE_form {A : List (Bool × Int)} {L : Int} {C : List (Int × Int)} {D : List Int} (hf : formE A L C ≠ 0) : feedR A L C D 3000 = .error (formE A L C) := by
  have : usE A L C = formE A L C := by unfold usE; rw [if_pos hf]
  unfold feedR
  rw [this, if_pos hf]
def inpAt (D : List Int) (k : Nat) : Int := if k < D.length then D.getD k 0 else 0
theorem inp_u32 {D : List Int} (hD : ∀ x ∈ D, 0 ≤ x ∧ x ≤ 255) (k : Nat) : U32 (inpAt D k) := by
  unfold inpAt
  by_cases h : k < D.length
  · rw [if_pos h]
    have := hD _ (getD_mem (d := 0) h)
    exact ⟨by omega, by omega⟩
  · rw [if_neg h]; exact ⟨by decide, by decide⟩
theorem runR_us {A : List (Bool × Int)} {L : Int} {C : List (Int × Int)} {ar : List (List Int)} {cx : List Int} {inp : Int} {en : Bool} {fu : Int} (hu : usE A L C ≠ 0) : runR A L C ar cx inp en fu = .error (usE A L C) := by
  unfold runR; rw [if_pos hu]
theorem sp_err {A : List (Bool × Int)} {L : Int} {C : List (Int × Int)} {D : List Int} {R : Out} {k : Nat} {ar : List (List Int)} {cx out : List Int} {st e : Int} (hC : OkI C) (hD : ∀ x ∈ D, 0 ≤ x ∧ x ≤ 255) (h : SpL A L C D R k ar cx out st) (hk : k ≤ D.length)
    (hr : runR A L C ar cx (inpAt D k) (decide (k = D.length)) (3000 - st) = .error e) : R = .error e ∧ e ≠ 0 := by
  rcases h.or with ⟨hu, hf⟩ | ⟨hu, -, hR⟩
  · rw [show D.length + 1 - k = (D.length - k) + 1 by omega] at hf
    unfold feedF at hf
    rw [show (if k < D.length then D.getD k 0 else 0) = inpAt D k from rfl] at hf
    rw [hr] at hf
    refine ⟨hf.symm, ?_⟩
    obtain ⟨e1, -, -, n, hn⟩ := mid_run (L := L) (en := decide (k = D.length)) (inp := inpAt D k) hC hu (inp_u32 hD k) h.mid
    rw [e1] at hr
    rw [hr] at hn
    exact ne0_run _ _ hn
  · rw [runR_us hu] at hr
    simp only [Except.error.injEq] at hr
    subst hr
    exact ⟨hR, hu⟩
theorem sp_ok {A : List (Bool × Int)} {L : Int} {C : List (Int × Int)} {D : List Int} {R : Out} {k : Nat} {ar ar' : List (List Int)} {cx cx' out out' : List Int} {st st' : Int} (hC : OkI C) (hD : ∀ x ∈ D, 0 ≤ x ∧ x ≤ 255) (h : SpL A L C D R k ar cx out st) (hk : k ≤ D.length)
    (hr : runR A L C ar cx (inpAt D k) (decide (k = D.length)) (3000 - st) = .ok (ar', cx', out', st')) : SpL A L C D R (k + 1) ar' cx' (out ++ out') (st + st') ∧ chkM A L C ar' cx' = 0 ∧ 0 ≤ st' ∧ out'.length ≤ 3000 := by
  rcases h.or with ⟨hu, hf⟩ | ⟨hu, -, hR⟩
  · obtain ⟨e1, e2, e3, n, hn⟩ := mid_run (L := L) (en := decide (k = D.length)) (inp := inpAt D k) hC hu (inp_u32 hD k) h.mid
    have hr' := hr
    rw [e1] at hr
    rw [hr] at hn
    have ho := run_out n _ _ _ _ _ hn
    obtain ⟨i1, -⟩ := inv_run n _ _ _ _ _ hn (by show (0 : Int) ≤ 3000 - st; have := h.mid.s1; omega) h.mid.fit
    change st' ≤ 3000 - st at i1
    change (out'.length : Int) - st' ≤ ((0 : Nat) : Int) - 0 at ho
    have hol := h.ol
    have hs0 := h.mid.s0
    have hl : (out ++ out').length ≤ 65536 := by rw [List.length_append]; omega
    have hm := mid_after hC hu (inp_u32 hD k) h.mid hr' hl
    refine ⟨⟨hm, by rw [List.length_append]; omega, Or.inl ⟨hu, ?_⟩⟩, ?_, by omega, by omega⟩
    · rw [show D.length + 1 - k = (D.length - k) + 1 by omega] at hf
      unfold feedF at hf
      rw [show (if k < D.length then D.getD k 0 else 0) = inpAt D k from rfl] at hf
      rw [hr'] at hf
      simp only at hf
      rw [if_neg (by omega)] at hf
      rw [show D.length + 1 - (k + 1) = D.length - k by omega]
      exact hf
    · unfold chkM
      rw [if_pos (usE_ok hu).1, if_pos hm.fit]
  · rw [runR_us hu] at hr
    cases hr
theorem sp_end {A : List (Bool × Int)} {L : Int} {C : List (Int × Int)} {D : List Int} {R : Out} {ar : List (List Int)} {cx out : List Int} {st : Int} (h : SpL A L C D R (D.length + 1) ar cx out st) : R = .ok (ar, cx, out, st) := by
  rcases h.or with ⟨-, hf⟩ | ⟨-, hk, -⟩
  · rw [Nat.sub_self] at hf
    exact hf.symm
  · omega
/-- What Feed returned, as one: the result's fields and the error. -/
def AllP (w : World) (R : Out) (va vc vo : Value) (sT e : Int) : Prop :=
  match R with
  | .error e' => e = e' ∧ sT = 0
  | .ok (ar, cx, out, st) => e = 0 ∧ sT = st ∧ MemR w va vc ar cx ∧ Rd w 1 vo out.length (out.map (Value.int .u8))
theorem AllP.ext {w w' : World} {R : Out} {va vc vo : Value} {sT e : Int} (h : AllP w R va vc vo sT e) (c : Ext w w') : AllP w' R va vc vo sT e := by
  unfold AllP at h ⊢
  cases R with
  | error e' => exact h
  | ok r =>
    obtain ⟨ar, cx, out, st⟩ := r
    obtain ⟨h1, h2, h3, h4⟩ := h
    exact ⟨h1, h2, h3.ext c, Rd.ext h4 c⟩
theorem feed_all {w : World} {R : Out} {x : Ending} {w' : World} (h : FeedP w R x w') : ∃ (a1 a2 a3 : Option Addr) (n1 n2 n3 c1 c2 c3 : Nat) (sT e : Int), x = .returned (.tuple #[.agg #[.slice a1 n1 c1, .slice a2 n2 c2, .slice a3 n3 c3, .int .i64 sT], .int .i64 e]) ∧ AllP w' R (.slice a1 n1 c1) (.slice a2 n2 c2) (.slice a3 n3 c3) sT e ∧ Ext w w' := by
  unfold FeedP at h
  unfold AllP
  cases R with
  | error e => exact ⟨none, none, none, 0, 0, 0, 0, 0, 0, 0, e, h.1, ⟨rfl, rfl⟩, h.2⟩
  | ok r =>
    obtain ⟨ar, cx, out, st⟩ := r
    obtain ⟨va, vc, vo, h1, h2, h3, h4⟩ := h
    obtain ⟨a1, c1, a2, c2, rfl, rfl⟩ := h2.shape _ _ rfl rfl
    obtain ⟨a3, c3, rfl, -⟩ := Rd.shape h3
    exact ⟨a1, a2, a3, _, _, _, c1, c2, c3, st, 0, h1, ⟨rfl, rfl, h2, h3⟩, h4⟩
/-- A memory that does not lie in the block m. -/
def MemX (m : Nat) (w : World) (va vc : Value) (ar : List (List Int)) (cx : List Int) : Prop := ∃ vs : List Value, (Rd w 1 va ar.length vs ∧ va.ownBlock ≠ some m) ∧ (∀ (i : Nat) (v : Value) (a : List Int), vs[i]? = some v → ar[i]? = some a → R32 w v a ∧ v.ownBlock ≠ some m) ∧ R32 w vc cx ∧ vc.ownBlock ≠ some m
theorem MemX.read {m : Nat} {w : World} {va vc : Value} {ar : List (List Int)} {cx : List Int} (h : MemX m w va vc ar cx) : MemR w va vc ar cx := by
  obtain ⟨vs, h1, h2, h3⟩ := h
  exact ⟨vs, h1.1, fun i v a hv ha => (h2 i v a hv ha).1, h3.1⟩
theorem MemX.chg {m : Nat} {w w' : World} {va vc : Value} {ar : List (List Int)} {cx : List Int} (h : MemX m w va vc ar cx) (c : Chg [m] w w') : MemX m w' va vc ar cx := by
  obtain ⟨vs, h1, h2, h3⟩ := h
  have k : ∀ {v : Value}, v.ownBlock ≠ some m → ∀ x ∈ [m], v.ownBlock ≠ some x := fun hv x hx => by rw [List.mem_singleton.1 hx]; exact hv
  exact ⟨vs, ⟨h1.1.chg c (fun x hx _ => k h1.2 x hx), h1.2⟩, fun i v a hv ha => ⟨(h2 i v a hv ha).1.chg c (fun x hx _ => k (h2 i v a hv ha).2 x hx), (h2 i v a hv ha).2⟩, h3.1.chg c (fun x hx _ => k h3.2 x hx), h3.2⟩
theorem MemX.ext {m : Nat} {w w' : World} {va vc : Value} {ar : List (List Int)} {cx : List Int} (h : MemX m w va vc ar cx) (c : Ext w w') : MemX m w' va vc ar cx := by
  obtain ⟨vs, h1, h2, h3⟩ := h
  exact ⟨vs, ⟨Rd.ext h1.1 c, h1.2⟩, fun i v a hv ha => ⟨Rd.ext (h2 i v a hv ha).1 c, (h2 i v a hv ha).2⟩, Rd.ext h3.1 c, h3.2⟩
theorem MemX.of_own {m B : Nat} {w : World} {va vc : Value} {ar : List (List Int)} {cx : List Int} (h : MemO w B va vc ar cx) (hm : m < B ∨ w.heap.size ≤ m) : MemX m w va vc ar cx := by
  obtain ⟨vs, h1, h2, h3⟩ := h
  have k : ∀ {e : TypeId} {sz n : Nat} {v : Value} {cs : List Value}, w.ownsRow B e sz v n cs → v.ownBlock ≠ some m := fun hv he => by
    have := own_lt hv he
    omega
  exact ⟨vs, ⟨Rd.of_own h1, k h1⟩, fun i v a hv ha => ⟨arow_rd (h2 i v a hv ha), k (h2 i v a hv ha)⟩, arow_rd h3, k h3⟩
end Go.Proofs.YtgjjklajipekdaaGreat
