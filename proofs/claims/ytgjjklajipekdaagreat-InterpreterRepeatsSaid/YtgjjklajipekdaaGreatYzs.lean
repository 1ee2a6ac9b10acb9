/- Layer 22: programs with an if, and programs with a loop, computed. -/
import Derived.Test.YtgjjklajipekdaaGreatYzm
namespace Go.Proofs.YtgjjklajipekdaaGreat
open Go.RowKit
set_option linter.unusedVariables false
set_option linter.unusedSimpArgs false

abbrev z16 : List Int := List.replicate 16 0
theorem run_go {E : Env} {s t : MS} {n : Nat} (hpc : s.pc < E.C.length) (h : stepF E s = .go t) : runN E (n + 1) s = runN E n t := by
  conv => lhs; unfold runN
  rw [if_neg (by omega), h]
theorem run_end {E : Env} {s : MS} {n : Nat} (hpc : (E.C.length : Int) ≤ s.pc) (h : s.st = []) : runN E (n + 1) s = some (.ok (s.ar, s.cx, s.out, s.steps)) := by
  unfold runN
  rw [if_pos hpc, if_pos h]
/-- One step: what is executed, what is popped, what comes of it. -/
theorem st_at {E : Env} {s : MS} {op arg : Int} {l r : List Vl} {t : MS} (hop : opS E s = op) (harg : argS E s = arg) (hf : s.steps < E.fuel) (hno : ¬ (op = 28 ∨ op = 31)) (hex : exiF E op arg = true) (hpop : popF (opAt op).2.1.data.toList s.st (baseF s.fr) = .ok (l, r))
    (hx : exeF E op arg l { s with st := r, steps := s.steps + 1 } = .go t) : stepF E s = .go { t with pc := t.pc + 1 } := by
  unfold stepF
  rw [hop, harg, if_neg (fun h => h.2 hf), if_neg (by rw [hex]; decide), hpop]
  have : s1F E s r = { s with st := r, steps := s.steps + 1 } := by unfold s1F; rw [hop, if_neg hno]
  simp only [this, hx]
  rfl
theorem st_end {E : Env} {s : MS} {t : MS} (hop : opS E s = 31) (harg : argS E s = 0) (hpop : popF (opAt 31).2.1.data.toList s.st (baseF s.fr) = .ok ([], s.st)) (hx : endF E s = .go t) : stepF E s = .go { t with pc := t.pc + 1 } := by
  unfold stepF
  rw [hop, harg, if_neg (fun h => h.1 (Or.inr rfl)), if_neg (by show ¬ exiF E 31 0 = false; simp [exiF]), hpop]
  have : s1F E s s.st = s := by unfold s1F; rw [hop, if_pos (Or.inr rfl)]
  simp only [this]
  show nextF (endF E s) = _
  rw [hx]; rfl
theorem calc_22 (a b : Int) (s : MS) (hs : s.st = []) : calcF 22 [(a, false), (b, false)] s = .go { s with st := [(if a < b then 1 else 0, true)] } := by
  have h : apF 22 a b = (fl (decide (a < b)), 0) := by rw [apF_in (by decide) (by decide) (Or.inr ⟨by decide, by decide⟩), apV_22]
  unfold calcF
  have e1 : vl [(a, false), (b, false)] 0 = (a, false) := rfl
  have e2 : calB [(a, false), (b, false)] = b := rfl
  rw [e1, e2]
  simp only [h]
  rw [if_neg (by decide)]
  unfold pushF
  rw [hs, if_neg (by show ¬ 32 < 1; decide)]
  have e3 : ((opAt 22).2.2.1 == (⟨#[116]⟩ : ByteArray)) = true := by kernel_rfl
  rw [e3]
  by_cases hab : a < b
  · rw [if_pos hab, decide_eq_true hab]; rfl
  · rw [if_neg hab, decide_eq_false hab]; rfl
theorem calc_21 (a b : Int) (s : MS) (hs : s.st = []) : calcF 21 [(a, false), (b, false)] s = .go { s with st := [(if a = b then 1 else 0, true)] } := by
  have h : apF 21 a b = (fl (a == b), 0) := by rw [apF_in (by decide) (by decide) (Or.inr ⟨by decide, by decide⟩), apV_21]
  unfold calcF
  have e1 : vl [(a, false), (b, false)] 0 = (a, false) := rfl
  have e2 : calB [(a, false), (b, false)] = b := rfl
  rw [e1, e2]
  simp only [h]
  rw [if_neg (by decide)]
  unfold pushF
  rw [hs, if_neg (by show ¬ 32 < 1; decide)]
  have e3 : ((opAt 21).2.2.1 == (⟨#[116]⟩ : ByteArray)) = true := by kernel_rfl
  rw [e3]
  by_cases hab : a = b
  · rw [if_pos hab, show (a == b) = true by simpa using hab]; rfl
  · rw [if_neg hab, show (a == b) = false by simpa using hab]; rfl
theorem calc_8 (a b : Int) (s : MS) (hs : s.st = []) (h0 : 0 ≤ a + b) (h1 : a + b < 4294967296) : calcF 8 [(a, false), (b, false)] s = .go { s with st := [(a + b, false)] } := by
  have h : apF 8 a b = (a + b, 0) := by rw [apF_in (by decide) (by decide) (Or.inr ⟨by decide, by decide⟩), apV_8, Int.emod_eq_of_lt h0 h1]
  unfold calcF
  have e1 : vl [(a, false), (b, false)] 0 = (a, false) := rfl
  have e2 : calB [(a, false), (b, false)] = b := rfl
  rw [e1, e2]
  simp only [h]
  rw [if_neg (by decide)]
  unfold pushF
  rw [hs, if_neg (by show ¬ 32 < 1; decide)]
  have e3 : ((opAt 8).2.2.1 == (⟨#[116]⟩ : ByteArray)) = false := by kernel_rfl
  rw [e3]
  rfl
theorem chk_push {b : Int} (h : b ≤ 4294967295) : chkI 0 b = 0 := by
  unfold chkI
  have e1 : isOp 0 = true := by kernel_rfl
  have e2 : (opAt 0).2.2.2.1 = 4294967296 := by kernel_rfl
  rw [if_neg (by rw [e1]; decide), e2, if_neg (by omega)]
theorem form_code {L : Int} {C : List (Int × Int)} (h0 : 0 ≤ L) (h1 : L ≤ 16) (hl : C.length ≤ 1024) (hc : codE C = 0) : formE [] L C = 0 := by
  unfold formE
  rw [if_neg (by rw [show arrE [] = 0 from rfl]; decide), if_neg (by omega), if_neg (by omega), hc]
theorem use_of {L : Int} {C : List (Int × Int)} {P : List Int} (hf : formE [] L C = 0) (hp : pairR C = (P, 0)) : usE [] L C = 0 ∧ usP [] L C = P := by
  unfold usE usP
  rw [if_neg (by rw [hf]; decide), if_neg (by rw [hf]; decide), hp]
  exact ⟨rfl, rfl⟩
/-- What a run computes, out of steps. -/
theorem runR_of {L : Int} {C : List (Int × Int)} {P : List Int} {inp : Int} {en : Bool} {fu : Int} {n : Nat} {R : Out} (hC : OkI C) (hf : formE [] L C = 0) (hp : pairR C = (P, 0)) (hi : U32 inp) (h0 : 0 ≤ fu) (h1 : fu ≤ 281474976710656)
    (h : runN { A := [], L := L, C := C, P := P, inp := inp, ended := en, fuel := fu } n (startS { A := [], L := L, C := C, P := P, inp := inp, ended := en, fuel := fu } [] z16) = some R) : runR [] L C [] z16 inp en fu = R := by
  obtain ⟨u1, u2⟩ := use_of hf hp
  have hfit : fitsF [] [] z16 = true := by kernel_rfl
  have hck : chkM [] L C [] z16 = 0 := by unfold chkM; rw [if_pos hf, if_pos hfit]
  obtain ⟨r1, r2, r3⟩ := ready_of (A := []) (L := L) (C := C) (ar := []) (cx := z16) (inp := inp) (en := en) (fu := fu) hC u1 hfit hi h1 (fun _ h => by cases h) (fun x hx => by rw [List.eq_of_mem_replicate hx]; exact ⟨by decide, by decide⟩)
  have he : envOf [] L C inp en fu = { A := [], L := L, C := C, P := P, inp := inp, ended := en, fuel := fu } := by unfold envOf; rw [u2]
  unfold runR
  rw [if_neg (by rw [u1]; decide), if_neg (by rw [hck]; decide), if_pos ⟨h0, h1⟩]
  rw [he] at r1 r2 r3 ⊢
  exact runF_of r1 r2 r3 h
/-- The program with an if: with an else, or without. -/
def chC (b : Int) (both : Bool) : List (Int × Int) := if both = true then [(32, 0), (0, b), (22, 0), (27, 0), (0, 1), (34, 0), (28, 0), (0, 2), (34, 0), (31, 0), (0, 3), (34, 0)] else [(32, 0), (0, b), (22, 0), (27, 0), (0, 1), (34, 0), (31, 0), (0, 3), (34, 0)]
def wantC (a b : Int) (both : Bool) : List Int := if a < b then [1, 3] else if both = true then [2, 3] else [3]
theorem form_ch (b : Int) (both : Bool) (h : b ≤ 4294967295) : formE [] 0 (chC b both) = 0 := by
  have e := chk_push h
  refine form_code (by decide) (by decide) (by cases both <;> simp [chC]) ?_
  cases both with
  | false =>
    show (if chkI 32 0 ≠ 0 then chkI 32 0 else if chkI 0 b ≠ 0 then chkI 0 b else codE [(22, 0), (27, 0), (0, 1), (34, 0), (31, 0), (0, 3), (34, 0)]) = 0
    rw [e]
    kernel_rfl
  | true =>
    show (if chkI 32 0 ≠ 0 then chkI 32 0 else if chkI 0 b ≠ 0 then chkI 0 b else codE [(22, 0), (27, 0), (0, 1), (34, 0), (28, 0), (0, 2), (34, 0), (31, 0), (0, 3), (34, 0)]) = 0
    rw [e]
    kernel_rfl
theorem pair_ch1 (b : Int) : pairR (chC b true) = ([-1, -1, -1, 6, -1, -1, 9, -1, -1, 3, -1, -1], 0) := by kernel_rfl
theorem pair_ch0 (b : Int) : pairR (chC b false) = ([-1, -1, -1, 6, -1, -1, 3, -1, -1], 0) := by kernel_rfl
theorem oki_ch (b : Int) (both : Bool) (h0 : 0 ≤ b) (h : b ≤ 4294967295) : OkI (chC b both) := by
  intro x hx
  cases both <;> simp only [chC, if_true, if_false, Bool.false_eq_true, List.mem_cons, List.not_mem_nil, or_false] at hx
  · rcases hx with rfl | rfl | rfl | rfl | rfl | rfl | rfl | rfl | rfl <;> exact ⟨by simp, by first | exact h0 | decide, by first | exact h | decide⟩
  · rcases hx with rfl | rfl | rfl | rfl | rfl | rfl | rfl | rfl | rfl | rfl | rfl | rfl <;> exact ⟨by simp, by first | exact h0 | decide, by first | exact h | decide⟩
theorem ch_run (a b : Int) (both : Bool) (ha : U32 a) (hb0 : 0 ≤ b) (hb : b ≤ 4294967295) : runR [] 0 (chC b both) [] z16 a false 8 = .ok ([], z16, wantC a b both, 4 + 2 * ((wantC a b both).length : Int)) := by
  cases both with
  | false =>
    refine runR_of (n := 3 + 12) (oki_ch b false hb0 hb) (form_ch b false hb) (pair_ch0 b) ha (by decide) (by decide) ?_
    obtain ⟨E, hE⟩ : ∃ E : Env, { A := [], L := 0, C := chC b false, P := [-1, -1, -1, 6, -1, -1, 3, -1, -1], inp := a, ended := false, fuel := 8 } = E := ⟨_, rfl⟩
    have h1 : stepF E (startS E [] z16) = .go { ar := [], cx := z16, pc := 1, st := [(a, false)], fr := [], lo := [], out := [], steps := 1 } := by subst hE; kernel_rfl
    have h2 : stepF E { ar := [], cx := z16, pc := 1, st := [(a, false)], fr := [], lo := [], out := [], steps := 1 } = .go { ar := [], cx := z16, pc := 2, st := [(a, false), (b, false)], fr := [], lo := [], out := [], steps := 2 } := by subst hE; kernel_rfl
    have h3 : stepF E { ar := [], cx := z16, pc := 2, st := [(a, false), (b, false)], fr := [], lo := [], out := [], steps := 2 } = nextF (calcF 22 [(a, false), (b, false)] { ar := [], cx := z16, pc := 2, st := [], fr := [], lo := [], out := [], steps := 3 }) := by subst hE; kernel_rfl
    rw [calc_22 a b _ rfl] at h3
    have hl : (E.C.length : Int) = 9 := by subst hE; rfl
    rw [hE, run_go (n := 2 + 12) (by rw [hl]; show (0 : Int) < 9; decide) h1, run_go (n := 1 + 12) (by rw [hl]; show (1 : Int) < 9; decide) h2, run_go (n := 0 + 12) (by rw [hl]; show (2 : Int) < 9; decide) h3]
    unfold wantC
    by_cases hab : a < b
    · rw [if_pos hab, if_pos hab]
      subst hE
      show _ = _
      kernel_rfl
    · rw [if_neg hab, if_neg hab]
      subst hE
      show _ = _
      kernel_rfl
  | true =>
    refine runR_of (n := 3 + 12) (oki_ch b true hb0 hb) (form_ch b true hb) (pair_ch1 b) ha (by decide) (by decide) ?_
    obtain ⟨E, hE⟩ : ∃ E : Env, { A := [], L := 0, C := chC b true, P := [-1, -1, -1, 6, -1, -1, 9, -1, -1, 3, -1, -1], inp := a, ended := false, fuel := 8 } = E := ⟨_, rfl⟩
    have h1 : stepF E (startS E [] z16) = .go { ar := [], cx := z16, pc := 1, st := [(a, false)], fr := [], lo := [], out := [], steps := 1 } := by subst hE; kernel_rfl
    have h2 : stepF E { ar := [], cx := z16, pc := 1, st := [(a, false)], fr := [], lo := [], out := [], steps := 1 } = .go { ar := [], cx := z16, pc := 2, st := [(a, false), (b, false)], fr := [], lo := [], out := [], steps := 2 } := by subst hE; kernel_rfl
    have h3 : stepF E { ar := [], cx := z16, pc := 2, st := [(a, false), (b, false)], fr := [], lo := [], out := [], steps := 2 } = nextF (calcF 22 [(a, false), (b, false)] { ar := [], cx := z16, pc := 2, st := [], fr := [], lo := [], out := [], steps := 3 }) := by subst hE; kernel_rfl
    rw [calc_22 a b _ rfl] at h3
    have hl : (E.C.length : Int) = 12 := by subst hE; rfl
    rw [hE, run_go (n := 2 + 12) (by rw [hl]; show (0 : Int) < 12; decide) h1, run_go (n := 1 + 12) (by rw [hl]; show (1 : Int) < 12; decide) h2, run_go (n := 0 + 12) (by rw [hl]; show (2 : Int) < 12; decide) h3]
    unfold wantC
    by_cases hab : a < b
    · rw [if_pos hab, if_pos hab]
      subst hE
      show _ = _
      kernel_rfl
    · rw [if_neg hab, if_neg hab]
      subst hE
      show _ = _
      kernel_rfl
end Go.Proofs.YtgjjklajipekdaaGreat
