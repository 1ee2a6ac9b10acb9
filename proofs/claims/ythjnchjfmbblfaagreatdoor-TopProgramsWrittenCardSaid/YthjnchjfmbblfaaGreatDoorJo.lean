/- The plain law of programs (layer 15): their form and their encoding. -/
import Derived.Test.YthjnchjfmbblfaaGreatDoorJc
import Derived.Test.YthjnchjfmbblfaaGreatDoorJz
import Derived.Test.YthjnchjfmbblfaaGreatDoorP
import Derived.Outline
namespace Go.Proofs.YthjnchjfmbblfaaGreatDoor
open Go.RowKit
set_option linter.unusedVariables false
/-- The cells of an array, and of an instruction. -/
def cA (x : Bool × Int) : List Value := [.bool x.1, .int .i64 x.2]
def cI (x : Int × Int) : List Value := [.int .i64 x.1, .int .u32 x.2]
def Arr (w : World) (v : Value) (l : List (Bool × Int)) : Prop := Rd w 2 v l.length (l.flatMap cA)
def Cod (w : World) (v : Value) (l : List (Int × Int)) : Prop := Rd w 2 v l.length (l.flatMap cI)
def OkA (l : List (Bool × Int)) : Prop := ∀ x ∈ l, -9223372036854775808 ≤ x.2 ∧ x.2 ≤ 9223372036854775807
def OkI (l : List (Int × Int)) : Prop := ∀ x ∈ l, (-9223372036854775808 ≤ x.1 ∧ x.1 ≤ 9223372036854775807) ∧ 0 ≤ x.2 ∧ x.2 ≤ 4294967295
theorem rd2_at {α : Type} {E : α → List Value} (hE : ∀ x, (E x).length = 2) {w : World} {b off n cap : Nat} {l : List α} (h : Rd w 2 (.slice (some ⟨b, off, none⟩) n cap) n (l.flatMap E)) (k : Nat) (x : α) (hx : l[k]? = some x) (u0 u1 : Value) (hu : E x = [u0, u1]) :
    w.cell? ⟨b, off + k * 2, none⟩ = some u0 ∧ w.cell? ⟨b, off + k * 2 + 1, none⟩ = some u1 := by
  have hk : k < l.length := (List.getElem?_eq_some_iff.1 hx).1
  have hl := flat_len E 2 hE l
  have hn : l.length = n := by have := h.len; omega
  obtain ⟨b', off', e, -, hc⟩ := h.cells (by omega)
  simp only [Option.some.injEq, Addr.mk.injEq, and_true] at e
  obtain ⟨rfl, rfl⟩ := e
  have g0 := flat_get E 2 hE l k 0 x hx (by decide)
  have g1 := flat_get E 2 hE l k 1 x hx (by decide)
  have c0 := hc (k * 2) (by omega)
  have c1 := hc (k * 2 + 1) (by omega)
  rw [hu] at g0 g1
  rw [Nat.add_zero] at g0
  rw [show (l.flatMap E).getD (k * 2) undef = u0 from getD_val g0] at c0
  rw [show (l.flatMap E).getD (k * 2 + 1) undef = u1 from getD_val g1] at c1
  exact ⟨c0, by rw [← c1, Nat.add_assoc]⟩
theorem cA_len (x : Bool × Int) : (cA x).length = 2 := rfl
theorem cI_len (x : Int × Int) : (cI x).length = 2 := rfl
theorem drop_at {α : Type} {l : List α} {k : Nat} {x : α} (h : l[k]? = some x) : l.drop k = x :: l.drop (k + 1) := by
  obtain ⟨hk, rfl⟩ := List.getElem?_eq_some_iff.1 h
  exact List.drop_eq_getElem_cons hk
theorem at_lt {α : Type} (l : List α) {k : Nat} (h : k < l.length) : ∃ x, l[k]? = some x ∧ x ∈ l := ⟨l[k], List.getElem?_eq_getElem h, List.getElem_mem h⟩
/-- The error of arrays, where so many cells are left. -/
def arrs : Int → List (Bool × Int) → Int
  | _, [] => 0
  | left, a :: r => if a.2 < 1 ∨ left < a.2 then 2 else arrs (left - a.2) r
def arrE (l : List (Bool × Int)) : Int := if 8 < l.length then 6 else arrs 65536 l
def codE : List (Int × Int) → Int
  | [] => 0
  | i :: r => if chkI i.1 i.2 ≠ 0 then chkI i.1 i.2 else codE r
def formE (A : List (Bool × Int)) (L : Int) (C : List (Int × Int)) : Int :=
  if arrE A ≠ 0 then arrE A else if L < 0 ∨ 16 < L then 2 else if 1024 < C.length then 6 else codE C
/-- The encoding. -/
def arrN (a : Bool × Int) : Int := 2 * a.2 + (if a.1 then 1 else 0)
def encA (l : List (Bool × Int)) : List Int := l.flatMap fun a => wenc (wnum (arrN a))
def encI (i : Int × Int) : List Int := i.1 % 256 :: (if (opAt i.1).2.2.2.2 then wenc i.2 else [])
def encC (l : List (Int × Int)) : List Int := l.flatMap encI
def progB (A : List (Bool × Int)) (L : Int) (C : List (Int × Int)) : List Int := wenc A.length ++ encA A ++ wenc L ++ wenc C.length ++ encC C
theorem encA_snoc (l : List (Bool × Int)) (a : Bool × Int) : encA (l ++ [a]) = encA l ++ wenc (wnum (arrN a)) := by simp [encA]
theorem encC_snoc (l : List (Int × Int)) (i : Int × Int) : encC (l ++ [i]) = encC l ++ encI i := by simp [encC]
end Go.Proofs.YthjnchjfmbblfaaGreatDoor

/- arrays and form of package instruction. -/
namespace Go.Proofs.YthjnchjfmbblfaaGreatDoor
open Go.RowKit
set_option linter.unusedVariables false
attribute [local go_sem ↓] Go.wp_at_zero Go.wp_at_succ

set_option maxHeartbeats 1000000 in
theorem iarrays_any (v : Value) (A : List (Bool × Int)) (hA : OkA A) (w : World) (h : Arr w v A) :
    Calls Tryz.prog 44 #[v] w fun x w' => x = .returned (.int .i64 (arrE A)) ∧ Ext w w' := by
  obtain ⟨a, cap, rfl, h1, h2, h3⟩ := Rd.shape h
  obtain ⟨n, hn⟩ : ∃ n, A.length = n := ⟨_, rfl⟩
  have h : Rd w 2 (.slice a A.length cap) A.length (A.flatMap cA) := h
  rw [hn] at h h1 ⊢
  replace hn := hidden hn
  replace h := hidden h
  replace hA := hidden hA
  by_cases hb : 8 < n
  · have hE : Hid (arrE A = 6) := by show arrE A = 6; unfold arrE; rw [hn.out]; exact if_pos hb
    go_enter Tryz.func44, Tryz.ntmps44
    go_wp2_with fail
    go_ret
    exact ⟨ret_int hE.out.symm, Ext.refl _⟩
  · have hE : Hid (arrE A = arrs 65536 A) := by show arrE A = _; unfold arrE; rw [hn.out]; exact if_neg hb
    go_enter Tryz.func44, Tryz.ntmps44
    go_wp2_with fail
    go_loopw [3, 11] (fun l i wr => ∃ (k : Nat) (left : Int), k ≤ n ∧ i = .int .i64 (k : Int) ∧ l = .int .i64 left ∧ 0 ≤ left ∧ left ≤ 65536 ∧ Hid (arrs 65536 A = arrs left (A.drop k)) ∧ Ext w wr) (fun _ i _ => n - (intOf i).toNat)
    case atStart => exact ⟨0, 65536, by omega, rfl, rfl, by omega, by omega, rfl, Ext.refl _⟩
    case round =>
      obtain ⟨k, left, hk, rfl, rfl, l0, l1, hl, hX⟩ := hrel
      by_cases hlt : k < n
      · obtain ⟨b, off, rfl, -, -⟩ := h.out.cells (by omega)
        obtain ⟨x, hx, hxm⟩ := at_lt A (k := k) (by rw [hn.out]; exact hlt)
        obtain ⟨x0, x1⟩ := hA.out x hxm
        obtain ⟨c0, c1⟩ := rd2_at cA_len h.out k x hx _ _ rfl
        have hdr := drop_at hx
        obtain ⟨wd, sz⟩ := x
        simp only at x0 x1 c0 c1
        have d0 := hX.cell c0
        have d1 := hX.cell c1
        clear c0 c1
        replace hdr := hidden hdr
        replace hx := hidden hx
        replace hxm := hidden hxm
        go_wp2_with fail
        all_goals first
          | (go_round
             case rel => exact ⟨k + 1, left - sz, by omega, by go_num, rfl, by omega, by omega, by show _ = _; rw [hl.out, hdr.out]; exact if_neg (by simp; omega), hX.alloc _⟩
             case measure => simp [intOf]; omega)
          | (go_ret
             exact ⟨ret_int (by rw [hE.out, hl.out, hdr.out]; exact (if_pos (by simp; omega)).symm), hX.alloc _⟩)
      · obtain rfl : k = n := by omega
        have hE2 : Hid (arrs 65536 A = 0) := by show _ = _; rw [hl.out, List.drop_of_length_le (by rw [hn.out]; exact Nat.le_refl _)]; rfl
        go_wp2_with fail
        go_ret
        exact ⟨ret_int (hE.out.trans hE2.out).symm, hX⟩

set_option maxHeartbeats 2000000 in
theorem iform_any (va vc : Value) (A : List (Bool × Int)) (L : Int) (C : List (Int × Int)) (hA : OkA A) (hC : OkI C) (hL0 : -9223372036854775808 ≤ L) (hL1 : L ≤ 9223372036854775807) (w : World) (ra : Arr w va A) (rc : Cod w vc C) :
    Calls Tryz.prog 25 #[.agg #[va, .int .i64 L, vc]] w fun x w' => x = .returned (.int .i64 (formE A L C)) ∧ Ext w w' := by
  have hwf : True := trivial
  obtain ⟨aa, ca, rfl, a1, a2, a3⟩ := Rd.shape ra
  obtain ⟨ac, cc, rfl, c1, c2, c3⟩ := Rd.shape rc
  obtain ⟨m, hm⟩ : ∃ m, A.length = m := ⟨_, rfl⟩
  obtain ⟨n, hn⟩ : ∃ n, C.length = n := ⟨_, rfl⟩
  have h : Rd w 2 (.slice ac C.length cc) C.length (C.flatMap cI) := rc
  have hfa := fun W (g : Ext w W) => iarrays_any (.slice aa A.length ca) A hA W (Rd.ext ra g)
  obtain ⟨e0, he0⟩ : ∃ e, arrE A = e := ⟨_, rfl⟩
  rw [he0] at hfa
  rw [hn] at h c1 ⊢
  rw [hm] at hfa a1 ⊢
  replace hn := hidden hn
  replace h := hidden h
  replace hfa := hidden hfa
  replace hC := hidden hC
  clear ra rc hA hm
  by_cases hz : e0 = 0
  · subst hz
    have hE : Hid (formE A L C = if L < 0 ∨ 16 < L then 2 else if 1024 < n then 6 else codE C) := by show _ = _; unfold formE; rw [he0, if_neg (by simp), hn.out]
    clear he0
    go_enter Tryz.func25, Tryz.ntmps25
    go_wp2_with fail
    refine (hfa.out _ ((Ext.refl w).alloc _)).mono ?_
    rintro e w1 ⟨rfl, g1⟩
    obtain ⟨p0, -, pz⟩ := g1.box 0 _ rfl
    have p1 := (g1.box 1 _ rfl).1
    have p2 := (g1.box 2 _ rfl).1
    have hX := g1.past
    by_cases hL : L < 0 ∨ 16 < L
    · have hE2 : Hid (formE A L C = 2) := by show _ = _; rw [hE.out, if_pos hL]
      rcases hL with hL | hL
      · go_wp2_with fail
        go_ret
        exact ⟨ret_int hE2.out.symm, hX⟩
      · have hL' : ¬ L < 0 := by omega
        go_wp2_with fail
        go_ret
        exact ⟨ret_int hE2.out.symm, hX⟩
    · have hL' : 0 ≤ L := by omega
      have hL2 : L ≤ 16 := by omega
      by_cases hb : 1024 < n
      · have hE2 : Hid (formE A L C = 6) := by show _ = _; rw [hE.out, if_neg hL, if_pos hb]
        clear hL
        go_wp2_with fail
        go_ret
        exact ⟨ret_int hE2.out.symm, hX⟩
      · have hE2 : Hid (formE A L C = codE C) := by show _ = _; rw [hE.out, if_neg hL, if_neg hb]
        clear hL
        go_wp2_with fail
        go_loopw [30] (fun i wr => ∃ (k : Nat), k ≤ n ∧ i = .int .i64 (k : Int) ∧ Hid (codE C = codE (C.drop k)) ∧ Ext w wr) (fun i _ => n - (intOf i).toNat)
        case atStart => exact ⟨0, by omega, rfl, rfl, hX⟩
        case round =>
          obtain ⟨k, hk, rfl, hl, hX⟩ := hrel
          clear p0 p1 p2
          by_cases hlt : k < n
          · obtain ⟨b, off, rfl, -, -⟩ := h.out.cells (by omega)
            obtain ⟨x, hx, hxm⟩ := at_lt C (k := k) (by rw [hn.out]; exact hlt)
            obtain ⟨⟨x0, x1⟩, x2, x3⟩ := hC.out x hxm
            obtain ⟨c0, c1⟩ := rd2_at cI_len h.out k x hx _ _ rfl
            have hdr := drop_at hx
            obtain ⟨op, arg⟩ := x
            simp only at x0 x1 x2 x3 c0 c1
            have d0 := hX.cell c0
            have d1 := hX.cell c1
            clear c0 c1
            have hck := icheck_any op arg x2 x3
            obtain ⟨q, hq⟩ : ∃ q, chkI op arg = q := ⟨_, rfl⟩
            rw [hq] at hck
            replace hdr := hidden hdr
            replace hx := hidden hx
            replace hxm := hidden hxm
            replace hck := hidden hck
            replace hq := hidden hq
            go_wp2_with fail
            refine (hck.out _).mono ?_
            rintro e w2 ⟨rfl, g2⟩
            have hX2 := hX.trans g2.past
            by_cases hq0 : q = 0
            · subst hq0
              go_wp2_with fail
              go_round
              case rel => exact ⟨k + 1, by omega, by go_num, by show _ = _; rw [hl.out, hdr.out]; exact if_neg (by simp [hq.out]), hX2⟩
              case measure => simp [intOf]; omega
            · have hq1 : (q != 0) = true := by simp [hq0]
              go_wp2_with fail
              go_ret
              exact ⟨ret_int (by rw [hE2.out, hl.out, hdr.out]; exact ((if_pos (by rw [hq.out]; exact hq0)).trans hq.out).symm), hX2⟩
          · obtain rfl : k = n := by omega
            have hE3 : Hid (codE C = 0) := by show _ = _; rw [hl.out, List.drop_of_length_le (by rw [hn.out]; exact Nat.le_refl _)]; rfl
            go_wp2_with fail
            go_ret
            exact ⟨ret_int (hE2.out.trans hE3.out).symm, hX⟩
  · have hE : Hid (formE A L C = e0) := by show _ = _; unfold formE; rw [he0]; exact if_pos hz
    have hz' : (e0 != 0) = true := by simp [hz]
    clear he0
    go_enter Tryz.func25, Tryz.ntmps25
    go_wp2_with fail
    refine (hfa.out _ ((Ext.refl w).alloc _)).mono ?_
    rintro e w1 ⟨rfl, g1⟩
    go_wp2_with fail
    go_ret
    exact ⟨ret_int hE.out.symm, g1.past⟩
end Go.Proofs.YthjnchjfmbblfaaGreatDoor
