
import Derived.Test.YtgjjklajipekdaaGreatZe
import Derived.Test.YtgjjklajipekdaaGreatYzm
namespace Go.Proofs.YtgjjklajipekdaaGreat
set_option maxHeartbeats 16000000
set_option maxRecDepth 100000
open Go.RowKit
set_option linter.unusedVariables false
set_option linter.unusedSimpArgs false
attribute [local go_sem ↓] Go.wp_at_zero Go.wp_at_succ
def FewM (ar : List (List Int)) (x : Ending) : Prop := ∃ b, x = .returned (.bool b) ∧ (b = true → ∀ a ∈ ar, a.length ≤ 300)
theorem fewmem_any (ma mc : Value) (ar : List (List Int)) (cx : List Int) (w : World) (hM : MemR w ma mc ar cx) :
  Calls Tryz.prog 11 #[.agg #[ma, mc]] w fun x w' => FewM ar x ∧ Ext w w' := by
 obtain ⟨b, hb⟩ := ex w.heap.size
 obtain ⟨rl, hrl⟩ := ex ar.length
 obtain ⟨xl, hxl⟩ := ex cx.length
 obtain ⟨am, cm, ax, cc, rfl, rfl⟩ := hM.shape rl xl hrl hxl
 obtain ⟨W1, hW1, X1, P1⟩ := alx w #[.slice am rl cm, .slice ax xl cc] [.slice am rl cm, .slice ax xl cc] 29 b hb
 obtain ⟨vs, m1, m2, -⟩ := hM.ext X1
 rw [hrl] at m1
 obtain ⟨p0, p1⟩ := P1.c2
 have P1I := hidden P1
 have XI := hidden X1
 have m1I := hidden m1
 have m2I := hidden m2
 have hrlI := hidden hrl
 replace hW1 := hidden hW1
 clear hM X1 P1 m1 m2 hrl hxl
 go_enter Tryz.func11, Tryz.ntmps11
 go_upto_region 1 with fail
 rw [hW1.out]
 clear hW1 hb
 by_cases h20 : 20 < rl
 ·have q1 : decide ((20 : Int) < (rl : Int)) = true := by simp; omega
  go_wp2_with fail
  go_ret
  exact ⟨⟨_, rfl, fun h => by cases h⟩, XI.out⟩
 ·have q1 : decide ((20 : Int) < (rl : Int)) = false := by simp; omega
  by_cases h40 : 40 < xl
  ·have q2 : decide ((40 : Int) < (xl : Int)) = true := by simp; omega
   go_wp2_with fail
   go_ret
   exact ⟨⟨_, rfl, fun h => by cases h⟩, XI.out⟩
  ·have q2 : decide ((40 : Int) < (xl : Int)) = false := by simp; omega
   go_wp2_with fail
   go_loopw [3] (fun ix wr => ∃ k : Nat, k ≤ rl ∧ ix = .int .i64 (k : Int) ∧ Hid (∀ a ∈ ar.take k, a.length ≤ 300) ∧ Hid (Ext W1 wr)) (fun ix _ => (rl - intOf ix).toNat)
   case atStart => exact ⟨0, by omega, rfl, hidden (fun a h => by simp at h), hidden (Ext.refl _)⟩
   case round =>
    obtain ⟨k, hk, rfl, hall, hE⟩ := hrel
    have u0 := (P1I.out.ext hE.out).cell 0 _ rfl
    clear p0 p1
    have hkw : IntKind.i64.wrap ((k : Int) + 1) = (k : Int) + 1 := IntWalk.i64_in _ (by omega)
    by_cases hlt : k < rl
    ·have hlt' : (k : Int) < (rl : Int) := by omega
     obtain ⟨mb, mo, rfl, -, -⟩ := Rd.cells (cs := vs) (w := W1) (sz := 1) m1I.out (show 0 < rl by omega)
     have l1 : vs.length = rl := by have := m1I.out.1; omega
     obtain ⟨v, hv⟩ : ∃ v, vs[k]? = some v := ⟨_, List.getElem?_eq_getElem (by omega)⟩
     obtain ⟨a, ha⟩ : ∃ a, ar[k]? = some a := ⟨_, List.getElem?_eq_getElem (by rw [hrlI.out]; omega)⟩
     have e1 := m2I.out k v a hv ha
     obtain ⟨ae, ce, rfl, -⟩ := Rd.shape e1
     have d2 := hE.out.cell (rd_at m1I.out k _ hv)
     obtain ⟨s, hs⟩ := ex a.length
     rw [hs] at d2
     have hal2 : s ≤ 300 → Hid (∀ x ∈ ar.take (k + 1), x.length ≤ 300) := fun h => hidden (fun x hx => by
      rw [take_snoc' ha] at hx
      rcases List.mem_append.1 hx with hx | hx
      ·exact hall.out x hx
      ·rw [List.mem_singleton.1 hx, hs]; exact h)
     replace hal2 := hidden hal2
     clear hv ha e1 l1 hs
     by_cases h300 : 300 < s
     ·have q3 : decide ((300 : Int) < (s : Int)) = true := by simp; omega
      go_wp2_with fail
      go_ret
      exact ⟨⟨_, rfl, fun h => by cases h⟩, XI.out.trans hE.out⟩
     ·have q3 : decide ((300 : Int) < (s : Int)) = false := by simp; omega
      go_wp2_with fail
      go_roundw
      case rel => exact ⟨k + 1, by omega, by go_num, hal2.out (by omega), hE⟩
      case measure => simp [intOf]; omega
    ·have hlt' : ¬ (k : Int) < (rl : Int) := by omega
     obtain rfl : k = rl := by omega
     go_wp2_with fail
     go_ret
     exact ⟨⟨_, rfl, fun _ => by have := hall.out; rw [List.take_of_length_le (by rw [hrlI.out]; exact Nat.le_refl _)] at this; exact this⟩, XI.out.trans hE.out⟩
theorem fits_no {A : List (Bool × Int)} {ar : List (List Int)} {cx : List Int} {k : Nat} {x : Bool × Int} {a : List Int} (hx : A[k]? = some x) (ha : ar[k]? = some a) (hf : fit1 (x, a) = false) : fitsF A ar cx = false := by
 unfold fitsF
 rw [fit_no hx ha hf, Bool.and_false]
theorem fit1_no {x : Bool × Int} {a : List Int} (h : (a.length : Int) ≠ x.2) : fit1 (x, a) = false := by
 unfold fit1
 simp only
 rw [decide_eq_false h]
 rfl
theorem fit1_big {x : Bool × Int} {a : List Int} {y : Int} (h1 : x.1 = false) (hy : y ∈ a) (h2 : 255 < y) : fit1 (x, a) = false := by
 have : bigA a = true := by
  unfold bigA
  rw [List.any_eq_true]
  exact ⟨y, hy, by simpa using h2⟩
 unfold fit1
 simp only
 rw [h1, this]
 simp
theorem fit1_yes {x : Bool × Int} {a : List Int} (h : (a.length : Int) = x.2) (h2 : x.1 = false → ∀ y ∈ a, y ≤ 255) : fit1 (x, a) = true := by
 unfold fit1
 simp only
 rw [decide_eq_true h]
 cases hx : x.1 with
 | true => rfl
 | false =>
  have : bigA a = false := by
   unfold bigA
   rw [List.any_eq_false]
   intro y hy
   have := h2 hx y hy
   simp
   omega
  rw [this]
  rfl
theorem rfits_any (va ma mc : Value) (A : List (Bool × Int)) (ar : List (List Int)) (cx : List Int) (hal : ∀ a ∈ ar, a.length ≤ 100000) (w : World) (ra : Arr w va A) (hM : MemR w ma mc ar cx) :
  Calls Tryz.prog 36 #[va, .agg #[ma, mc]] w fun x w' => x = .returned (.bool (fitsF A ar cx)) ∧ Ext w w' := by
 obtain ⟨b, hb⟩ := ex w.heap.size
 obtain ⟨n, hn⟩ := ex A.length
 obtain ⟨rl, hrl⟩ := ex ar.length
 obtain ⟨xl, hxl⟩ := ex cx.length
 obtain ⟨am, cm, ax, cc, rfl, rfl⟩ := hM.shape rl xl hrl hxl
 obtain ⟨W1, hW1, X1, P1⟩ := alx w #[.slice am rl cm, .slice ax xl cc] [.slice am rl cm, .slice ax xl cc] 29 b hb
 obtain ⟨vs, m1, m2, -⟩ := hM.ext X1
 rw [hrl] at m1
 have raI := hidden (show Rd W1 2 va n (A.flatMap cA) by have := Rd.ext ra X1; rw [hn] at this; exact this)
 obtain ⟨aa, ca, rfl, hca, hca2, -⟩ := Rd.shape ra
 rw [hn] at raI hca ⊢
 have hfF := hidden (show ∀ B, B = fitsF A ar cx → B = (decide (ar.length = A.length) && decide (cx.length = 16) && (A.zip ar).all fit1) from fun B h => h)
 have hfI : Hid (fitsF A ar cx = (decide (rl = n) && decide (xl = 16) && (A.zip ar).all fit1)) := hidden (by unfold fitsF; rw [hrl, hn, hxl])
 obtain ⟨p0, p1⟩ := P1.c2
 have P1I := hidden P1
 have XI := hidden X1
 have m1I := hidden m1
 have m2I := hidden m2
 have hrlI := hidden hrl
 have hnI := hidden hn
 have halI := hidden hal
 replace hW1 := hidden hW1
 clear hM X1 P1 m1 m2 hrl hxl ra hn hfF hal
 obtain ⟨fr, hfr⟩ := ex (fitsF A ar cx)
 rw [hfr]
 rw [hfr] at hfI
 replace hfr := hidden hfr
 go_enter Tryz.func36, Tryz.ntmps36
 go_upto_region 1 with fail
 rw [hW1.out]
 clear hW1 hb
 by_cases h1 : rl = n
 ·subst h1
  by_cases h2 : xl = 16
  ·subst h2
   go_wp2_with fail
   go_loopw [5] (fun ix wr => ∃ k : Nat, k ≤ rl ∧ ix = .int .i64 (k : Int) ∧ Hid (∀ (j : Nat) (x : Bool × Int) (a : List Int), j < k → A[j]? = some x → ar[j]? = some a → fit1 (x, a) = true) ∧ Hid (Ext W1 wr)) (fun ix _ => (rl - intOf ix).toNat)
   case atStart => exact ⟨0, by omega, rfl, hidden (fun j x a h => by omega), hidden (Ext.refl _)⟩
   case round =>
    obtain ⟨k, hk, rfl, hall, hE⟩ := hrel
    obtain ⟨Wo, hWW⟩ : ∃ Z, Z = wr := ⟨_, rfl⟩
    subst hWW
    have u0 := (P1I.out.ext hE.out).cell 0 _ rfl
    clear p0 p1
    have hkw : IntKind.i64.wrap ((k : Int) + 1) = (k : Int) + 1 ∨ k = rl := by
     by_cases h : k = rl
     ·exact Or.inr h
     ·exact Or.inl (IntWalk.i64_in _ (by omega))
    by_cases hlt : k < rl
    ·have hlt' : (k : Int) < (rl : Int) := by omega
     have hkw' : IntKind.i64.wrap ((k : Int) + 1) = (k : Int) + 1 := by rcases hkw with h | h; exact h; omega
     clear hkw
     obtain ⟨mb, mo, rfl, -, -⟩ := Rd.cells (cs := vs) (w := W1) (sz := 1) m1I.out (show 0 < rl by omega)
     obtain ⟨lb, lo, rfl, -, -⟩ := Rd.cells (cs := A.flatMap cA) (w := W1) (sz := 2) raI.out (show 0 < rl by omega)
     have l1 : vs.length = rl := by have := m1I.out.1; omega
     obtain ⟨v, hv⟩ : ∃ v, vs[k]? = some v := ⟨_, List.getElem?_eq_getElem (by omega)⟩
     obtain ⟨a, ha⟩ : ∃ a, ar[k]? = some a := ⟨_, List.getElem?_eq_getElem (by rw [hrlI.out]; omega)⟩
     obtain ⟨x, hx⟩ : ∃ x, A[k]? = some x := ⟨_, List.getElem?_eq_getElem (by rw [hnI.out]; omega)⟩
     have e1 := m2I.out k v a hv ha
     have hal1 := halI.out a (List.mem_of_getElem? ha)
     obtain ⟨ae, ce, rfl, -⟩ := Rd.shape e1
     have D2 := rd_at m1I.out k _ hv
     obtain ⟨X0, x1⟩ := rd2_at (E := cA) (fun _ => rfl) raI.out k x hx _ _ rfl
     obtain ⟨wd, sz⟩ := x
     simp only at X0 x1
     obtain ⟨s, hs⟩ := ex a.length
     rw [hs] at D2 hal1
     have d2 := hE.out.cell D2
     have x0 := hE.out.cell X0
     replace x1 := hE.out.cell x1
     replace D2 := hidden D2
     replace X0 := hidden X0
     have e1I : Hid (Rd W1 1 (.slice ae s ce) s (a.map (Value.int .u32))) := hidden (by unfold R32 at e1; rw [hs] at e1; exact e1)
     have haI := hidden ha
     have hxI := hidden hx
     have hsI := hidden hs
     clear hv ha e1 l1 hs hx
     go_upto_region 6 with fail
     go_quiet (fail)
     by_cases hsz : (s : Int) = sz
     ·subst hsz
      clear u0 d2 x0 x1
      go_wp2_with fail
      go_loopw [6] (fun iy wq => ∃ j : Nat, j ≤ s ∧ iy = .int .i64 (j : Int) ∧ Hid (wd = false → ∀ y ∈ a.take j, y ≤ 255) ∧ Hid (Ext W1 wq)) (fun iy _ => (s - intOf iy).toNat)
      case atStart => exact ⟨0, by omega, rfl, hidden (fun _ y h => by simp at h), hidden ((Chg.of_ext [] hE.out).drewN _).ext⟩
      case round =>
       obtain ⟨j, hj, rfl, hsm, hE2⟩ := hrel
       have u0 := (P1I.out.ext hE2.out).cell 0 _ rfl
       have d2 := hE2.out.cell D2.out
       have x0 := hE2.out.cell X0.out
       have hjw : IntKind.i64.wrap ((j : Int) + 1) = (j : Int) + 1 := IntWalk.i64_in _ (by omega)
       by_cases hlj : j < s
       ·have hlj' : (j : Int) < (s : Int) := by omega
        obtain ⟨eb, eo, rfl, -, -⟩ := Rd.cells (cs := a.map (Value.int .u32)) (w := W1) (sz := 1) e1I.out (show 0 < s by omega)
        obtain ⟨y, hy⟩ : ∃ y, a[j]? = some y := ⟨_, List.getElem?_eq_getElem (by rw [hsI.out]; exact hlj)⟩
        have dy := hE2.out.cell (rd_at e1I.out j (.int .u32 y) (by rw [List.getElem?_map, hy]; rfl))
        have hyI := hidden hy
        clear hy
        cases wd with
        | true =>
         go_wp2_with fail
         go_roundw
         case rel => exact ⟨j + 1, by omega, by go_num, hidden (fun h => by cases h), hE2⟩
         case measure => simp [intOf]; omega
        | false =>
         by_cases hbig : 255 < y
         ·have q5 : decide (255 < y) = true := by simpa using hbig
          have hff : fr = false := by rw [← hfr.out]; exact fits_no hxI.out haI.out (fit1_big rfl (List.mem_of_getElem? hyI.out) hbig)
          subst hff
          go_wp2_with fail
          go_ret
          exact ⟨rfl, XI.out.trans hE2.out⟩
         ·have q5 : decide (255 < y) = false := by simpa using hbig
          have hsm2 : Hid (false = false → ∀ z ∈ a.take (j + 1), z ≤ 255) := hidden (fun _ z hz => by
           rw [take_snoc' hyI.out] at hz
           rcases List.mem_append.1 hz with hz | hz
           ·exact hsm.out rfl z hz
           ·rw [List.mem_singleton.1 hz]; omega)
          go_wp2_with fail
          go_roundw
          case rel => exact ⟨j + 1, by omega, by go_num, hidden (fun _ => hsm2.out rfl), hE2⟩
          case measure => simp [intOf]; omega
       ·have hlj' : ¬ (j : Int) < (s : Int) := by omega
        have hjs : j = s := by omega
        have hsm3 := hsm.out
        rw [List.take_of_length_le (by rw [hsI.out]; omega)] at hsm3
        have hall2 : Hid (∀ (i : Nat) (x : Bool × Int) (c : List Int), i < k + 1 → A[i]? = some x → ar[i]? = some c → fit1 (x, c) = true) := hidden (fun i x c hi e1 e2 => by
         by_cases hik : i < k
         ·exact hall.out i x c hik e1 e2
         ·obtain rfl : i = k := by omega
          rw [hxI.out] at e1
          rw [haI.out] at e2
          simp only [Option.some.injEq] at e1 e2
          subst e1
          subst e2
          exact fit1_yes (by rw [hsI.out]) (fun h y hy => hsm3 h y hy))
        clear hsm3
        go_wp2_with fail
        go_roundw
        case rel => exact ⟨k + 1, by omega, by go_num, hall2, hE2⟩
        case measure => simp [intOf]; omega
     ·have q0 : ((s : Int) != sz) = true := by simpa using hsz
      have hff : fr = false := by rw [← hfr.out]; exact fits_no hxI.out haI.out (fit1_no (by rw [hsI.out]; exact hsz))
      subst hff
      replace hsz := hidden hsz
      go_wp2_with fail
      go_ret
      exact ⟨rfl, XI.out.trans (((Chg.of_ext [] hE.out).drewN _).ext)⟩
    ·have hlt' : ¬ (k : Int) < (rl : Int) := by omega
     obtain rfl : k = rl := by omega
     have hft : fr = true := by
      rw [hfI.out]
      simp only [decide_true, Bool.true_and]
      rw [List.all_eq_true]
      intro z hz
      obtain ⟨j, hj, e⟩ := List.getElem_of_mem hz
      obtain ⟨e1, e2⟩ := zip_split A ar j z (by rw [List.getElem?_eq_getElem hj, e])
      exact hall.out j z.1 z.2 (by have := (List.getElem?_eq_some_iff.1 e1).1; rw [hnI.out] at this; exact this) e1 e2
     subst hft
     clear hkw
     go_wp2_with fail
     go_ret
     exact ⟨rfl, XI.out.trans hE.out⟩
  ·have q2 : ((xl : Int) != 16) = true := by simp; omega
   have hff : fr = false := by rw [hfI.out, decide_eq_false h2]; simp
   subst hff
   go_wp2_with fail
   go_ret
   exact ⟨rfl, XI.out⟩
 ·have q1 : ((rl : Int) != (n : Int)) = true := by simp; omega
  have hff : fr = false := by rw [hfI.out, decide_eq_false h1]; simp
  subst hff
  go_wp2_with fail
  go_ret
  exact ⟨rfl, XI.out⟩
theorem mem_in {w : World} {ma mc : Value} {M : List (Value × List Int)} {cx : List Int} (rm : Rd w 1 ma M.length (M.flatMap fun x => [x.1])) (hM : ∀ x ∈ M, Rd w 1 x.1 x.2.length (x.2.map (Value.int .u32)) ∧ ∀ z ∈ x.2, 0 ≤ z ∧ z ≤ 4294967295) (rcx : Rd w 1 mc cx.length (cx.map (Value.int .u32))) :
  MemR w ma mc (M.map (·.2)) cx ∧ ∀ a ∈ M.map (·.2), ∀ x ∈ a, U32 x := by
 have hf : ∀ l : List (Value × List Int), (l.flatMap fun x => [x.1]) = l.map (·.1) := by
  intro l
  induction l with
  | nil => rfl
  | cons x l ih => rw [List.flatMap_cons, ih]; rfl
 rw [hf] at rm
 refine ⟨⟨M.map (·.1), by rw [List.length_map]; exact rm, fun i v a hv ha => ?_, rcx⟩, fun a ha x hx => ?_⟩
 ·rw [List.getElem?_map] at hv ha
  cases hx : M[i]? with
  | none => rw [hx] at hv; simp at hv
  | some x =>
   rw [hx] at hv ha
   simp only [Option.map_some, Option.some.injEq] at hv ha
   subst hv
   subst ha
   exact (hM x (List.mem_of_getElem? hx)).1
 ·obtain ⟨y, hy, rfl⟩ := List.mem_map.1 ha
  exact (hM y hy).2 x hx
end Go.Proofs.YtgjjklajipekdaaGreat
