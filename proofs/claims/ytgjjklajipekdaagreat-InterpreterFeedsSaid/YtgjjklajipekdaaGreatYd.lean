
import Derived.Test.YtgjjklajipekdaaGreatYc
import Derived.Test.YtgjjklajipekdaaGreatWc
import Derived.Test.YtgjjklajipekdaaGreatXc
namespace Go.Proofs.YtgjjklajipekdaaGreat
open Go.RowKit
set_option linter.unusedVariables false
set_option linter.unusedSimpArgs false
theorem atw (S : Sy) : ∀ (L : Bool) (lp : Option Nat) (C : List (Int × Int)) (P : List Int) (pre rest : List (Int × Int)) (A B : List Int) (i : Nat) (lpI : Int), C = pre ++ (S.cod ++ rest) → pre.length = i → S.wf L → (L = true → ∃ e : Nat, lp = some e ∧ lpI = (e : Int)) → P = A ++ (S.prt true i lpI ++ B) → A.length = i → AtW C P lp i S := by
 induction S with
 | nil => intros; trivial
 | op x r ih =>
  intro L lp C P pre rest A B i lpI hC hp hw hL hP hA
  obtain ⟨w1, w2, w3, w4, w5, w6⟩ := hw
  obtain ⟨h1, h2⟩ := op_at (C := C) (x := x) (A := pre) (B := r.cod ++ rest) (by rw [hC]; rfl) hp
  change opC C i = x.1 at h1
  have hg : P.getD i 0 = if x.1 = 30 then lpI else -1 := by rw [hP]; exact getD_mid hA
  refine ⟨h2, ⟨by omega, by omega, by omega, by omega⟩, fun h30 => ?_, ih L lp C P (pre ++ [x]) rest (A ++ [if x.1 = 30 then lpI else -1]) B (i + 1) lpI (by rw [hC]; simp [Sy.cod]) (by simp; omega) w6 hL (by rw [hP]; simp [Sy.prt]) (by simp; omega)⟩
  rw [h1] at h30
  obtain ⟨e, e1, e2⟩ := hL (w5 h30)
  exact ⟨e, e1, by rw [hg, if_pos h30, e2]⟩
 | blk x b z r ih1 ih2 =>
  intro L lp C P pre rest A B i lpI hC hp hw hL hP hA
  obtain ⟨w1, w2, w3, w4⟩ := hw
  have e0 : C = pre ++ x :: (b.cod ++ z :: (r.cod ++ rest)) := by rw [hC]; simp [Sy.cod]
  have e1 : C = (pre ++ [x]) ++ (b.cod ++ z :: (r.cod ++ rest)) := by rw [e0]; simp
  have e2 : C = (pre ++ x :: b.cod) ++ z :: (r.cod ++ rest) := by rw [e0]; simp
  have e3 : C = (pre ++ x :: (b.cod ++ [z])) ++ (r.cod ++ rest) := by rw [e0]; simp
  obtain ⟨h1, h2⟩ := op_at e0 hp
  obtain ⟨k1, k2⟩ := op_at e2 (i := i + b.len + 1) (by simp [Sy.len_cod]; omega)
  change opC C i = x.1 at h1
  change opC C (i + b.len + 1) = z.1 at k1
  simp only [Sy.prt] at hP
  refine ⟨k2, by rw [h1]; exact w1, ?_, by rw [k1]; exact w2, ih1 _ _ C P (pre ++ [x]) _ (A ++ [((i + b.len + 1 : Nat) : Int)]) ((i : Int) :: r.prt true (i + b.len + 2) lpI ++ B) (i + 1) (if x.1 = 29 ∧ True then ((i + b.len + 1 : Nat) : Int) else lpI) e1 (by simp; omega) w3 ?_ (by rw [hP]; simp) (by simp; omega),
   ih2 _ _ C P _ rest (A ++ (((i + b.len + 1 : Nat) : Int) :: (b.prt true (i + 1) (if x.1 = 29 ∧ True then ((i + b.len + 1 : Nat) : Int) else lpI) ++ [(i : Int)]))) B (i + b.len + 2) lpI e3 (by simp [Sy.len_cod]; omega) w4 hL (by rw [hP]; simp) (by simp [Sy.len_prt]; omega)⟩
  ·rw [hP, List.cons_append]
   exact getD_mid hA
  ·intro hb
   rw [h1]
   by_cases h29 : x.1 = 29
   ·rw [if_pos h29, if_pos ⟨h29, trivial⟩]; exact ⟨_, rfl, rfl⟩
   ·rw [if_neg h29, if_neg (fun h => h29 h.1)]
    have h29' : (x.1 == 29) = false := by simp; exact h29
    rw [h29', Bool.or_false] at hb
    exact hL hb
 | ife x b y c z r ih1 ih2 ih3 =>
  intro L lp C P pre rest A B i lpI hC hp hw hL hP hA
  obtain ⟨w1, w2, w3, w4, w5, w6⟩ := hw
  have e0 : C = pre ++ x :: (b.cod ++ y :: (c.cod ++ z :: (r.cod ++ rest))) := by rw [hC]; simp [Sy.cod]
  have e1 : C = (pre ++ [x]) ++ (b.cod ++ y :: (c.cod ++ z :: (r.cod ++ rest))) := by rw [e0]; simp
  have e2 : C = (pre ++ x :: b.cod) ++ y :: (c.cod ++ z :: (r.cod ++ rest)) := by rw [e0]; simp
  have e3 : C = (pre ++ x :: (b.cod ++ [y])) ++ (c.cod ++ z :: (r.cod ++ rest)) := by rw [e0]; simp
  have e4 : C = (pre ++ x :: (b.cod ++ y :: c.cod)) ++ z :: (r.cod ++ rest) := by rw [e0]; simp
  have e5 : C = (pre ++ x :: (b.cod ++ y :: (c.cod ++ [z]))) ++ (r.cod ++ rest) := by rw [e0]; simp
  obtain ⟨h1, h2⟩ := op_at e0 hp
  obtain ⟨k1, k2⟩ := op_at e2 (i := i + b.len + 1) (by simp [Sy.len_cod]; omega)
  obtain ⟨m1, m2⟩ := op_at e4 (i := i + b.len + c.len + 2) (by simp [Sy.len_cod]; omega)
  change opC C i = x.1 at h1
  change opC C (i + b.len + 1) = y.1 at k1
  change opC C (i + b.len + c.len + 2) = z.1 at m1
  simp only [Sy.prt] at hP
  refine ⟨m2, by rw [h1]; exact w1, ?_, by rw [k1]; exact w2, ?_, by rw [m1]; exact w3, ih1 _ _ C P (pre ++ [x]) _ (A ++ [((i + b.len + 1 : Nat) : Int)]) (((i + b.len + c.len + 2 : Nat) : Int) :: (c.prt true (i + b.len + 2) lpI ++ (i : Int) :: r.prt true (i + b.len + c.len + 3) lpI) ++ B) (i + 1) lpI e1 (by simp; omega) w4 hL (by rw [hP]; simp) (by simp; omega),
   ih2 _ _ C P _ _ (A ++ (((i + b.len + 1 : Nat) : Int) :: (b.prt true (i + 1) lpI ++ [((i + b.len + c.len + 2 : Nat) : Int)]))) ((i : Int) :: r.prt true (i + b.len + c.len + 3) lpI ++ B) (i + b.len + 2) lpI e3 (by simp [Sy.len_cod]; omega) w5 hL (by rw [hP]; simp) (by simp [Sy.len_prt]; omega),
   ih3 _ _ C P _ rest (A ++ (((i + b.len + 1 : Nat) : Int) :: (b.prt true (i + 1) lpI ++ ((i + b.len + c.len + 2 : Nat) : Int) :: (c.prt true (i + b.len + 2) lpI ++ [(i : Int)])))) B (i + b.len + c.len + 3) lpI e5 (by simp [Sy.len_cod]; omega) w6 hL (by rw [hP]; simp) (by simp [Sy.len_prt]; omega)⟩
  ·rw [hP, List.cons_append]
   exact getD_mid hA
  ·rw [hP, show A ++ (((i + b.len + 1 : Nat) : Int) :: (b.prt true (i + 1) lpI ++ ((i + b.len + c.len + 2 : Nat) : Int) :: (c.prt true (i + b.len + 2) lpI ++ (i : Int) :: r.prt true (i + b.len + c.len + 3) lpI)) ++ B) = (A ++ ((i + b.len + 1 : Nat) : Int) :: b.prt true (i + 1) lpI) ++ ((i + b.len + c.len + 2 : Nat) : Int) :: ((c.prt true (i + b.len + 2) lpI ++ (i : Int) :: r.prt true (i + b.len + c.len + 3) lpI) ++ B) by simp]
   exact getD_mid (by simp [Sy.len_prt]; omega)
theorem good_start (E : Env) (S : Sy) (hC : E.C = S.cod) (hw : S.wf false) (hd : S.dep ≤ 8) (hP : E.P = S.prt true 0 (-1)) (s : MS) (h0 : s.pc = 0) (hf : s.fr = []) : Good E s := by
 refine ⟨none, S, 0, by rw [h0]; rfl, atw S false none E.C E.P [] [] [] [] 0 (-1) (by simp [hC]) rfl hw (fun h => by cases h) (by simp [hP]) rfl, by rw [hf]; simpa using hd, ?_⟩
 rw [hf]
 exact ⟨rfl, by rw [hC, Sy.len_cod]; simp⟩
theorem push_steps {l : List Vl} {s s' : MS} (h : pushF l s = .go s') : s'.steps = s.steps := by
 unfold pushF at h; split at h
 ·cases h
 ·cases h; rfl
theorem tick_steps {E : Env} {s s' : MS} (h : tickF E s = .go s') : s'.steps = s.steps + 1 ∧ s.steps < E.fuel := by
 unfold tickF at h; split at h
 next hc => cases h; exact ⟨rfl, hc⟩
 ·cases h
def Up (s : MS) (r : Rs) : Prop := ∀ s', r = .go s' → s.steps ≤ s'.steps
theorem Up.stuck (s : MS) : Up s .stuck := fun _ h => by cases h
theorem Up.err (s : MS) (e : Int) : Up s (.err e) := fun _ h => by cases h
theorem Up.go {s s' : MS} (h : s.steps ≤ s'.steps) : Up s (.go s') := fun _ e => by cases e; exact h
theorem Up.push (s : MS) (l : List Vl) : Up s (pushF l s) := fun _ h => Int.le_of_eq (push_steps h).symm
theorem exe_steps {E : Env} {op arg : Int} {l : List Vl} {s : MS} : Up s (exeF E op arg l s) := by
 have le := Int.le_refl s.steps
 unfold exeF
 refine ite_both (Up s) (fun _ => Up.push _ _) (fun _ => ?_)
 refine ite_both (Up s) (fun _ => Up.push _ _) (fun _ => ?_)
 refine ite_both (Up s) (fun _ => Up.go le) (fun _ => ?_)
 refine ite_both (Up s) (fun _ => ?_) (fun _ => ?_)
 ·exact ite_both (Up s) (fun _ => Up.err _ _) (fun _ => Up.push _ _)
 refine ite_both (Up s) (fun _ => ?_) (fun _ => ?_)
 ·exact ite_both (Up s) (fun _ => Up.err _ _) (fun _ => Up.go le)
 refine ite_both (Up s) (fun _ => Up.push _ _) (fun _ => ?_)
 refine ite_both (Up s) (fun _ => Up.go le) (fun _ => ?_)
 refine ite_both (Up s) (fun _ => Up.push _ _) (fun _ => ?_)
 refine ite_both (Up s) (fun _ => ?_) (fun _ => ?_)
 ·unfold chooseF
  refine ite_both (Up s) (fun _ => Up.stuck _) (fun _ => ite_both (Up s) (fun _ => Up.go le) (fun _ => ?_))
  split
  ·exact Up.stuck _
  ·exact ite_both (Up s) (fun _ => Up.go le) (fun _ => ite_both (Up s) (fun _ => Up.go le) (fun _ => Up.stuck _))
 refine ite_both (Up s) (fun _ => ?_) (fun _ => ?_)
 ·unfold otherF
  split
  ·exact Up.stuck _
  ·refine ite_both (Up s) (fun _ => Up.err _ _) (fun _ => ?_)
   split
   ·exact Up.stuck _
   ·exact ite_both (Up s) (fun _ => Up.go le) (fun _ => Up.stuck _)
 refine ite_both (Up s) (fun _ => ?_) (fun _ => ?_)
 ·unfold loopF
  refine ite_both (Up s) (fun _ => Up.err _ _) (fun _ => ite_both (Up s) (fun _ => ?_) (fun _ => ite_both (Up s) (fun _ => Up.stuck _) (fun _ => ?_)))
  ·split
   ·exact Up.stuck _
   ·exact Up.go le
  ·intro s' h; have := (tick_steps h).1; simp only at this; omega
 refine ite_both (Up s) (fun _ => ?_) (fun _ => ?_)
 ·unfold leaveF
  split
  ·exact Up.stuck _
  ·refine ite_both (Up s) (fun _ => Up.err _ _) (fun _ => ite_both (Up s) (fun _ => Up.go le) (fun _ => ?_))
   split
   ·exact Up.stuck _
   ·exact Up.go le
 refine ite_both (Up s) (fun _ => ?_) (fun _ => ?_)
 ·unfold endF
  split
  ·exact Up.stuck _
  ·refine ite_both (Up s) (fun _ => Up.err _ _) (fun _ => ite_both (Up s) (fun _ => ?_) (fun _ => Up.go le))
   intro s' h; have := (tick_steps h).1; simp only at this; omega
 refine ite_both (Up s) (fun _ => Up.push _ _) (fun _ => ?_)
 refine ite_both (Up s) (fun _ => Up.push _ _) (fun _ => ?_)
 refine ite_both (Up s) (fun _ => ?_) (fun _ => ?_)
 ·exact ite_both (Up s) (fun _ => Up.go le) (fun _ => Up.err _ _)
 refine ite_both (Up s) (fun _ => Up.go le) (fun _ => ?_)
 exact ite_both (Up s) (fun _ => Up.err _ _) (fun _ => Up.push _ _)
theorem mu_lt {E : Env} {s s' : MS} (h0 : 0 ≤ s'.pc) (h : (s.steps < s'.steps ∧ s.steps < E.fuel) ∨ (s'.steps = s.steps ∧ s.pc < s'.pc ∧ s.pc < E.C.length)) : muF E s' < muF E s := by
 unfold muF
 rcases h with ⟨h1, h2⟩ | ⟨h1, h2, h3⟩
 ·obtain ⟨a, ha⟩ : ∃ a, (E.fuel - s.steps).toNat = a + 1 := ⟨(E.fuel - s.steps).toNat - 1, by omega⟩
  have hb : (E.fuel - s'.steps).toNat ≤ a := by omega
  rw [ha]
  have := Nat.mul_le_mul_right (E.C.length + 2) hb
  rw [Nat.add_mul]
  omega
 ·rw [h1]
  omega
theorem step_good {E : Env} {s : MS} (hE : OkE E) (hS : OkS E s) (hG : Good E s) (h1 : s.pc < E.C.length) : match stepF E s with
  | .stuck => False
  | .err _ => True
  | .go s' => Good E s' ∧ OkS E s' ∧ 0 ≤ s'.pc ∧ s'.pc ≤ E.C.length ∧ muF E s' < muF E s := by
 obtain ⟨lp, S, k, hk, hA, hd, hc⟩ := hG
 have h0 : 0 ≤ s.pc := by omega
 have hkeep := fun s' => keeps_step hE hS h0 h1 (s' := s')
 obtain ⟨op, hop⟩ := ex (opS E s)
 obtain ⟨arg, harg⟩ := ex (argS E s)
 have hopk : opC E.C k = op := by rw [← hop]; unfold opS; rw [hk, Int.toNat_natCast]; rfl
 have hs1 : ∀ r, (s1F E s r).steps = if op = 28 ∨ op = 31 then s.steps else s.steps + 1 := fun r => by rw [← hop]; rfl
 revert hkeep
 unfold stepF
 rw [hop, harg]
 by_cases hs : ¬ (op = 28 ∨ op = 31) ∧ ¬ s.steps < E.fuel
 ·rw [if_pos hs]; intro _; trivial
 rw [if_neg hs]
 by_cases hx : exiF E op arg = false
 ·rw [if_pos hx]; intro _; trivial
 rw [if_neg hx]
 rcases hp : popF (opAt op).2.1.data.toList s.st (baseF s.fr) with e | ⟨l, r⟩
 ·intro _; trivial
 simp only
 intro hkeep
 have p3 := hs1 r
 have p1 : (s1F E s r).pc = s.pc := rfl
 have p2 : (s1F E s r).fr = s.fr := rfl
 revert hkeep
 generalize s1F E s r = s1 at p1 p2 p3 ⊢
 intro hkeep
 have hgo : Goes E (exeF E op arg l s1) := by
  cases S with
  | nil =>
   cases hr : s.fr.reverse with
   | nil =>
    rw [hr] at hc
    have := hc.2
    simp only [Sy.len] at this
    omega
   | cons f fs =>
    rw [hr] at hc
    exact goes_end hE (by rw [p2]; exact fun f hf => (hS.frv f hf).2.2.1) (by rw [p2]; exact hS.fr) (by rw [p1]; exact hk) (by rw [p2]; exact hr) hc op arg hopk l
  | op x r' =>
   simp only [Sy.dep, Sy.len] at hd hc
   rw [show k + (r'.len + 1) = k + 1 + r'.len by omega] at hc
   exact goes_plain hE (by rw [p1]; exact hk) hA (by rw [p2]; exact hd) (by rw [p2]; exact hc) op arg hopk l
  | blk x b z r' => exact goes_blk hE (by rw [p1]; exact hk) hA (by rw [p2]; exact hd) (by rw [p2]; exact hc) op arg hopk l
  | ife x b y c z r' => exact goes_ife hE (by rw [p1]; exact hk) hA (by rw [p2]; exact hd) (by rw [p2]; exact hc) op arg hopk l
 have hst := exe_steps (E := E) (op := op) (arg := arg) (l := l) (s := s1)
 have h28 : ∀ s', op = 28 → exeF E op arg l s1 = .go s' → s'.steps = s1.steps ∧ s.pc < s'.pc + 1 := by
  intro s' e h
  subst e
  rw [exe28] at h
  cases S with
  | nil =>
   cases hr : s.fr.reverse with
   | nil => rw [hr] at hc; have := hc.2; simp only [Sy.len] at this; omega
   | cons f fs =>
    rw [hr] at hc
    obtain ⟨lp', e2, S2, c1, c2, c3, c4, -⟩ := hc
    simp only [Sy.len, Nat.add_zero] at c1 c4
    rcases c4 with rfl | ⟨g1, g2, g3, g4⟩
    ·rw [c3] at hopk; cases hopk
    ·have ht := toF_mk (E := E) (k := k) (t := e2) (by rw [hE.P0]; exact c1) g3 c2
     unfold otherF at h
     rw [p2, (last_rev hr).1] at h
     simp only at h
     split at h
     ·cases h
     ·rw [p1, hk, ht] at h
      simp only at h
      split at h
      ·cases h; exact ⟨rfl, by show s.pc < (e2 : Int) - 1 + 1; omega⟩
      ·cases h
  | op x r' => exact absurd hopk hA.2.1.2.1
  | blk x b z r' => obtain ⟨-, h2, -⟩ := hA; rcases h2 with h2 | h2 <;> (rw [h2] at hopk; cases hopk)
  | ife x b y c z r' => obtain ⟨-, h2, -⟩ := hA; rw [h2] at hopk; cases hopk
 have h31 : ∀ s', op = 31 → exeF E op arg l s1 = .go s' → (s'.steps = s1.steps ∧ s'.pc = s1.pc) ∨ (s'.steps = s1.steps + 1 ∧ s1.steps < E.fuel) := by
  intro s' e h
  subst e
  rw [exe31] at h
  unfold endF at h
  split at h
  ·cases h
  split at h
  ·cases h
  split at h
  ·have := tick_steps h
   exact Or.inr this
  ·cases h; exact Or.inl ⟨rfl, rfl⟩
 revert hkeep hgo hst h28 h31
 generalize exeF E op arg l s1 = R
 intro hkeep hgo hst h28 h31
 cases R with
 | stuck => exact hgo
 | err e => trivial
 | go s2 =>
  obtain ⟨k1, k2, k3⟩ := hkeep _ rfl
  refine ⟨hgo, k1, k2, k3, mu_lt k2 ?_⟩
  show (s.steps < s2.steps ∧ _) ∨ (s2.steps = s.steps ∧ s.pc < s2.pc + 1 ∧ _)
  have hge := hst s2 rfl
  by_cases hb : op = 28 ∨ op = 31
  ·rw [if_pos hb] at p3
   rcases hb with hb | hb
   ·obtain ⟨a1, a2⟩ := h28 s2 hb rfl
    exact Or.inr ⟨by omega, a2, h1⟩
   ·rcases h31 s2 hb rfl with ⟨a1, a2⟩ | ⟨a1, a2⟩
    ·exact Or.inr ⟨by omega, by omega, h1⟩
    ·exact Or.inl ⟨by omega, by omega⟩
  ·rw [if_neg hb] at p3
   have : s.steps < E.fuel := by
    apply Decidable.byContradiction
    intro hc
    exact hs ⟨hb, hc⟩
   exact Or.inl ⟨by omega, this⟩
theorem run_total {E : Env} (hE : OkE E) : ∀ (N : Nat) (s : MS), OkS E s → Good E s → muF E s < N → ∃ R, runN E N s = some R := by
 intro N
 induction N with
 | zero => intro s _ _ h; omega
 | succ N ih =>
  intro s hS hG hm
  have h0 : 0 ≤ s.pc := by obtain ⟨lp, S, k, hk, -⟩ := hG; omega
  unfold runN
  by_cases hlt : s.pc < E.C.length
  ·rw [if_neg (by omega)]
   have := step_good hE hS hG hlt
   revert this
   generalize stepF E s = R
   intro h
   cases R with
   | stuck => exact h.elim
   | err e => exact ⟨_, rfl⟩
   | go s' => exact ih s' h.2.1 h.1 (by omega)
  ·rw [if_pos (by omega)]
   split
   ·exact ⟨_, rfl⟩
   ·exact ⟨_, rfl⟩
theorem runN_mono {E : Env} : ∀ (n m : Nat) (s : MS) (R : Out), runN E n s = some R → n ≤ m → runN E m s = some R := by
 intro n
 induction n with
 | zero => intro m s R h; cases h
 | succ n ih =>
  intro m s R h hm
  obtain ⟨m, rfl⟩ : ∃ j, m = j + 1 := ⟨m - 1, by omega⟩
  unfold runN at h ⊢
  split at h
  next hc => rw [if_pos hc]; exact h
  next hc =>
   rw [if_neg hc]
   revert h
   generalize stepF E s = r
   intro h
   cases r with
   | stuck => exact h
   | err e => exact h
   | go s' => exact ih m s' R h (by omega)
theorem runN_unique {E : Env} {n m : Nat} {s : MS} {R Q : Out} (h : runN E n s = some R) (k : runN E m s = some Q) : R = Q := by
 have h1 := runN_mono n (max n m) s R h (by omega)
 have k1 := runN_mono m (max n m) s Q k (by omega)
 rw [h1] at k1
 exact Option.some.inj k1
def runF (E : Env) (s : MS) : Out := (runN E (muF E s + 1) s).getD (.error 0)
theorem runF_run {E : Env} {s : MS} (hE : OkE E) (hS : OkS E s) (hG : Good E s) : ∃ n, runN E n s = some (runF E s) := by
 obtain ⟨Q, hQ⟩ := run_total hE (muF E s + 1) s hS hG (by omega)
 exact ⟨_, by unfold runF; rw [hQ]; rfl⟩
def startS (E : Env) (ar : List (List Int)) (cx : List Int) : MS := { ar := ar, cx := cx, pc := 0, st := [], fr := [], lo := List.replicate E.L.toNat 0, out := [], steps := 0 }
theorem oks_start {E : Env} (hE : OkE E) (ar : List (List Int)) (cx : List Int) (h1 : ar.length = E.A.length) (h2 : ∀ a ∈ ar, a.length ≤ 65536 ∧ ∀ x ∈ a, U32 x) (h3 : cx.length = 16) (h4 : ∀ x ∈ cx, U32 x) : OkS E (startS E ar cx) := by
 have := hE.L0
 refine ⟨Int.le_refl _, by show (0 : Int) ≤ _; omega, by show 0 ≤ 32; omega, (fun v hv => by cases hv), by show 0 ≤ 8; omega, (fun f hf => by cases hf), h1, h2, ?_, ?_, h3, h4, by show 0 ≤ 65536; omega, (fun x hx => by cases hx)⟩
 ·show ((List.replicate E.L.toNat (0 : Int)).length : Int) = E.L
  rw [List.length_replicate]; omega
 ·intro x hx
  rw [List.eq_of_mem_replicate hx]
  exact ⟨by decide, by decide⟩
end Go.Proofs.YtgjjklajipekdaaGreat
