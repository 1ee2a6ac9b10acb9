
import Derived.Test.YtgjjklajipekdaaGreatZu
namespace Go.Proofs.YtgjjklajipekdaaGreat
open Go.RowKit
set_option linter.unusedVariables false
set_option linter.unusedSimpArgs false
attribute [local go_sem ↓] Go.wp_at_zero Go.wp_at_succ
theorem runR_err {A : List (Bool × Int)} {L : Int} {C : List (Int × Int)} {ar : List (List Int)} {cx : List Int} {inp : Int} {en : Bool} {fu : Int} (h : errE (envOf A L C inp en fu) ar cx ≠ 0) : runR A L C ar cx inp en fu = .error (errE (envOf A L C inp en fu) ar cx) := by
 revert h
 show (if formE A L C = 0 then (if (pairR C).2 = 0 then (if fitsF A ar cx = true then (if fu < 0 then 2 else if 281474976710656 < fu then 2 else 0) else 3) else (pairR C).2) else formE A L C) ≠ 0 → runR A L C ar cx inp en fu = .error (if formE A L C = 0 then (if (pairR C).2 = 0 then (if fitsF A ar cx = true then (if fu < 0 then 2 else if 281474976710656 < fu then 2 else 0) else 3) else (pairR C).2) else formE A L C)
 by_cases h1 : formE A L C = 0
 ·rw [if_pos h1]
  by_cases h2 : (pairR C).2 = 0
  ·rw [if_pos h2]
   have hu : usE A L C = 0 := by rw [usE_pair h1]; exact h2
   cases h3 : fitsF A ar cx with
   | false => intro _; rw [runR_fits hu h3]; rfl
   | true =>
    rw [if_pos rfl, runR_in hu h3]
    by_cases h4 : fu < 0
    ·rw [if_pos h4, if_neg (by omega)]; intro _; rfl
    ·rw [if_neg h4]
     by_cases h5 : 281474976710656 < fu
     ·rw [if_pos h5, if_neg (by omega)]; intro _; rfl
     ·rw [if_neg h5]; intro h; exact absurd rfl h
  ·rw [if_neg h2]
   have hu : usE A L C = (pairR C).2 := usE_pair h1
   intro _
   rw [runR_use (by rw [hu]; exact h2), hu]
 ·rw [if_neg h1]
  intro _
  rw [runR_use (by rw [usE_form h1]; exact h1), usE_form h1]
theorem errE_0 {E : Env} {ar : List (List Int)} {cx : List Int} (h : errE E ar cx = 0) : formE E.A E.L E.C = 0 ∧ (pairR E.C).2 = 0 ∧ fitsF E.A ar cx = true ∧ 0 ≤ E.fuel ∧ E.fuel ≤ 281474976710656 := by
 unfold errE at h
 by_cases h1 : formE E.A E.L E.C = 0
 ·rw [if_pos h1] at h
  by_cases h2 : (pairR E.C).2 = 0
  ·rw [if_pos h2] at h
   cases h3 : fitsF E.A ar cx with
   | false => rw [h3, if_neg (by decide)] at h; cases h
   | true =>
    rw [h3, if_pos rfl] at h
    by_cases h4 : E.fuel < 0
    ·rw [if_pos h4] at h; cases h
    ·rw [if_neg h4] at h
     by_cases h5 : 281474976710656 < E.fuel
     ·rw [if_pos h5] at h; cases h
     ·exact ⟨h1, h2, rfl, by omega, by omega⟩
  ·rw [if_neg h2] at h; exact absurd h h2
 ·rw [if_neg h1] at h; exact absurd h h1
theorem rrunf_any (va vc ma mc : Value) (A : List (Bool × Int)) (L : Int) (C : List (Int × Int)) (ar : List (List Int)) (cx : List Int) (inp : Int) (en : Bool) (fu : Int) (hA : OkA A) (hC : OkI C) (hL0 : -9223372036854775808 ≤ L) (hL1 : L ≤ 9223372036854775807)
  (hf0 : -9223372036854775808 ≤ fu) (hf1 : fu ≤ 9223372036854775807) (hi : U32 inp) (hau : ∀ a ∈ ar, ∀ x ∈ a, U32 x) (hcu : ∀ x ∈ cx, U32 x) (hal : ∀ a ∈ ar, a.length ≤ 100000) (w : World) (ra : Arr w va A) (rc : Cod w vc C) (hM : MemR w ma mc ar cx) :
  Calls Tryz.prog 20 #[.agg #[va, .int .i64 L, vc], .agg #[ma, mc], .agg #[.int .u32 inp, .bool en, .int .i64 fu]] w (ExeP w (envOf A L C inp en fu) (runR A L C ar cx inp en fu)) := by
 by_cases he : errE (envOf A L C inp en fu) ar cx = 0
 ·obtain ⟨h1', h2', h3', h4'⟩ := errE_0 he
  have h1 : formE A L C = 0 := h1'
  have h2 : (pairR C).2 = 0 := h2'
  have h3 : fitsF A ar cx = true := h3'
  have h4 : 0 ≤ fu ∧ fu ≤ 281474976710656 := h4'
  have hu : usE A L C = 0 := by rw [usE_pair h1]; exact h2
  rw [runR_in hu h3, if_pos h4]
  obtain ⟨r1, r2, -⟩ := ready_of (en := en) hC hu h3 hi h4.2 hau hcu
  obtain ⟨n, hn⟩ := ready_run (en := en) hC hu h3 hi h4.2 hau hcu
  exact rrun_go va vc ma mc (envOf A L C inp en fu) ar cx hA hC hL0 hL1 hf0 hf1 hal w ra rc hM h1 h2 h3 h4 r1 r2 (usP_pair h1) n _ hn
 ·rw [runR_err he]
  exact rrun_err va vc ma mc (envOf A L C inp en fu) ar cx hA hC hL0 hL1 hf0 hf1 hal w ra rc hM he
end Go.Proofs.YtgjjklajipekdaaGreat
