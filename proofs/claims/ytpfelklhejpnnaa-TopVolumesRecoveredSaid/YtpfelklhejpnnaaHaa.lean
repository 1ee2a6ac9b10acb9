/- Byte strings in memory that are owned: OL; append of one. -/
import Derived.Test.YtpfelklhejpnnaaGn
import Derived.Test.YtpfelklhejpnnaaT
namespace Go.Proofs.Ytpfelklhejpnnaa
open Go.RowKit
set_option linter.unusedVariables false
set_option linter.unusedSimpArgs false

/-- A list of byte strings whose outer row is owned; no byte string lies in the outer block. -/
def OL (w : World) (B : Nat) (v : Value) (L : List (List Int)) : Prop := ∃ vs, w.ownsRow B 22 1 v L.length vs ∧ RdC w vs (L.map bs) ∧ ∀ i u, vs[i]? = some u → 0 < (L.getD i []).length → ∀ g, v.ownBlock = some g → u.ownBlock ≠ some g
theorem OL.rl {w : World} {B : Nat} {v : Value} {L : List (List Int)} (h : OL w B v L) : RL w v L := by
  obtain ⟨vs, h1, h2, -⟩ := h
  exact ⟨vs, Rd.of_own h1, h2⟩
theorem OL.ext {w w' : World} {B : Nat} {v : Value} {L : List (List Int)} (h : OL w B v L) (k : Ext w w') : OL w' B v L := by
  obtain ⟨vs, h1, h2, h3⟩ := h
  exact ⟨vs, own_ext h1 k, h2.ext k, h3⟩
theorem OL.nil (w : World) (B : Nat) : OL w B (.slice none 0 0) [] := ⟨[], World.ownsRow_nil _ _ _ _, ⟨rfl, fun i v C h _ => by simp at h⟩, fun i u h _ => by simp at h⟩
theorem OL.lt {w : World} {B : Nat} {v : Value} {L : List (List Int)} (h : OL w B v L) {g : Nat} (hg : v.ownBlock = some g) : B ≤ g ∧ g < w.heap.size := by
  obtain ⟨vs, h1, -⟩ := h
  exact own_lt h1 hg
theorem OL.vals {w : World} {B : Nat} {v : Value} {L : List (List Int)} (h : OL w B v L) : ∃ vs, w.ownsRow B 22 1 v L.length vs := by
  obtain ⟨vs, h1, -⟩ := h
  exact ⟨vs, h1⟩
theorem OL.base {w : World} {B B' : Nat} {v : Value} {L : List (List Int)} (h : OL w B v L) (hB : B' ≤ B) : OL w B' v L := by
  obtain ⟨vs, ⟨h0, h1⟩, h2, h3⟩ := h
  refine ⟨vs, ⟨h0, ?_⟩, h2, h3⟩
  rcases h1 with h1 | ⟨g, cap, cur, e1, e2, e3⟩
  · exact Or.inl h1
  · exact Or.inr ⟨g, cap, cur, e1, by omega, e3⟩
theorem OL.shape {w : World} {B : Nat} {v : Value} {L : List (List Int)} (h : OL w B v L) : ∃ a cap, v = .slice a L.length cap ∧ L.length ≤ cap ∧ cap ≤ maxLen := h.rl.shape

theorem rd8_one {w : World} {v : Value} {l : List Int} (h : Rd8 w v l) : ∃ a c, v = .slice a l.length c := by
  obtain ⟨a, c, hv, -⟩ := Rd.shape h
  exact ⟨a, c, hv⟩
/-- One byte string is appended. -/
theorem wpList_append_row {w : World} {ops : Array Oper} {rest : List Oper} {o : Oper} {a : Act} {Q : Exit → Act → World → Prop} (hgd : o.guard = none) (s x : Operand)
    (ho : o.op = .call { callee := .builtin .append, args := #[s, x], argTypes := #[26, 26] })
    (B : Nat) (v : Value) (L : List (List Int)) (hs : a.eval s = v) (hO : OL w B v L) (u : Value) (l : List Int) (hu : Rd8 w u l) (hne : 0 < l.length → ∀ g, v.ownBlock = some g → u.ownBlock ≠ some g)
    (y : Option Addr) (c : Nat) (hx : a.eval x = .slice y 1 c) (hr : Rd w 1 (.slice y 1 c) 1 [u]) (hL : L.length ≤ 1000000) (hbase : B ≤ w.heap.size)
    (h : ∀ v' w', OL w' B v' (L ++ [l]) → w.grownBy w' v.ownBlock → (v'.ownBlock = v.ownBlock ∨ v'.ownBlock = some w.heap.size) → wpList Try.prog ops Q rest (a.put o.dst v') w') :
    wpList Try.prog ops Q (o :: rest) a w := by
  obtain ⟨vs, h1, h2, h3⟩ := hO
  obtain ⟨i0, hi, hz0, hz1, hz2⟩ := info_parts s8info
  have hvl : vs.length = L.length := by have := h1.1; omega
  obtain ⟨ua, uc, rfl⟩ := rd8_one hu
  refine wpList_append_rd hgd s x 26 ho B 22 i0 (.slice none 0 0) 1 24 Try.underlying26 hi hz0 hz1 hz2 rfl (by decide) v L.length vs hs h1 y 1 c [.slice ua l.length uc] hx hr (by simp [Value.oneCell']) (by unfold maxLen; omega) (by omega) hbase ?_
  intro v' w' hown hgrow hat
  have hC : Chg v.ownBlock.toList w w' := (Chg.refl v.ownBlock.toList w).grown hgrow (fun k hk => Or.inl (by rw [hk]; simp))
  have hr9 : ∀ (i : Nat) (u' : Value) (C : List Value), vs[i]? = some u' → (L.map bs)[i]? = some C → Rd w' 1 u' C.length C := fun i u' C hv hc => by
    refine (h2.2 i u' C hv hc).chg hC (fun g hg h0 => ?_)
    have hg' : v.ownBlock = some g := by simpa using hg
    refine h3 i u' hv ?_ g hg'
    rw [List.getElem?_map] at hc
    cases hLi : L[i]? with
    | none => rw [hLi] at hc; simp at hc
    | some li =>
      rw [hLi] at hc
      simp at hc
      subst hc
      rw [List.getD_eq_getElem?_getD, hLi]
      simpa [bs] using h0
  refine h v' w' ⟨vs ++ [.slice ua l.length uc], by simpa using hown, ⟨by simp [hvl], fun i u' C hv hc => ?_⟩, fun i u' hv hl g hg => ?_⟩ hgrow hat
  · by_cases hil : i < vs.length
    · rw [List.getElem?_append_left hil] at hv
      rw [List.map_append, List.getElem?_append_left (by simp; omega)] at hc
      exact hr9 i u' C hv hc
    · have hie : i = vs.length := by
        have := (List.getElem?_eq_some_iff.1 hv).1
        simp at this
        omega
      rw [hie, List.getElem?_concat_length] at hv
      rw [hie, hvl, List.map_append, List.getElem?_append_right (by simp)] at hc
      simp at hv hc
      subst hv hc
      rw [bs_len]
      exact Rd.chg hu hC (fun g hg h0 => hne h0 g (by simpa using hg))
  · by_cases hil : i < vs.length
    · rw [List.getElem?_append_left hil] at hv
      rw [List.getD_eq_getElem?_getD, List.getElem?_append_left (by omega), ← List.getD_eq_getElem?_getD] at hl
      rcases hat with e | e
      · exact h3 i u' hv hl g (by rw [← e]; exact hg)
      · rw [e] at hg
        have hh : w.heap.size = g := by simpa using hg
        have hLi : L[i]? = some (L.getD i []) := by simp [List.getD, show i < L.length from by omega]
        have := h2.2 i u' (bs (L.getD i [])) hv (by rw [List.getElem?_map, hLi]; rfl)
        exact Rd.off this (by omega) (by rw [bs_len]; exact hl)
    · have hie : i = vs.length := by
        have := (List.getElem?_eq_some_iff.1 hv).1
        simp at this
        omega
      rw [hie, List.getElem?_concat_length] at hv
      rw [hie, hvl, List.getD_eq_getElem?_getD, List.getElem?_concat_length] at hl
      simp at hv hl
      subst hv
      rcases hat with e | e
      · exact hne (by omega) g (by rw [← e]; exact hg)
      · rw [e] at hg
        have hh : w.heap.size = g := by simpa using hg
        exact Rd.off hu (by omega) (by omega)
end Go.Proofs.Ytpfelklhejpnnaa

/- The closures over rows: long, isMatrix$1, reduced$2; isMatrix. -/
namespace Go.Proofs.Ytpfelklhejpnnaa
open Go.RowKit
set_option linter.unusedVariables false
set_option linter.unusedSimpArgs false
attribute [local go_sem ↓] Go.wp_at_zero Go.wp_at_succ

theorem long_any (v : Value) (l : List Int) (hn : l.length ≤ 65536) (w : World) (hr : Rd8 w v l) :
    Calls Try.prog 25 #[v] w fun e w' => e = .returned (.bool false) ∧ Ext w w' := by
  obtain ⟨a, c, rfl⟩ := rd8_one hr
  obtain ⟨n, hl⟩ : ∃ n, l.length = n := ⟨_, rfl⟩
  rw [hl] at hn ⊢
  clear hr hl
  have v1 : ¬ (65536 : Int) < (n : Int) := by omega
  go_enter Try.func25, Try.ntmps25
  go_wp2_with fail
  go_ret
  exact ⟨rfl, Ext.refl _⟩

theorem isMat1_any (x b off k c n c2 : Nat) (a : Option Addr) (v : Value) (l : List Int) (hl : l.length = n) (hn : n ≤ 1000) (hk : 0 < k) (w : World) (hr : Rd8 w v l)
    (h0 : w.cell? ⟨x, 0, none⟩ = some (.slice (some ⟨b, off, none⟩) k c)) (h1 : w.cell? ⟨b, off, none⟩ = some (.slice a n c2)) :
    Calls Try.prog 81 #[v, .pointer (some ⟨x, 0, none⟩)] w fun e w' => e = .returned (.bool false) ∧ Ext w w' := by
  obtain ⟨a', c', rfl⟩ := rd8_one hr
  rw [hl]
  clear hr hl
  have v1 : (0 : Int) < (k : Int) := by omega
  go_enter Try.func81, Try.ntmps81
  go_wp2_with fail
  go_ret
  exact ⟨rfl, Ext.refl _⟩

theorem red2_any (x c : Nat) (v : Value) (l : List Int) (hc : c < l.length) (hn : l.length ≤ 1000) (w : World) (hr : Rd8 w v l) (h0 : w.cell? ⟨x, 0, none⟩ = some (.int .i64 (c : Int))) :
    Calls Try.prog 83 #[v, .pointer (some ⟨x, 0, none⟩)] w fun e w' => e = .returned (.bool (decide (l.getD c 0 ≠ 0))) ∧ Ext w w' := by
  obtain ⟨a, cp, rfl⟩ := rd8_one hr
  obtain ⟨b, off, rfl, hb⟩ := hr.some (by omega)
  have hce := hr.at c hc
  obtain ⟨n, hl⟩ : ∃ n, l.length = n := ⟨_, rfl⟩
  obtain ⟨y, hy⟩ : ∃ y, l.getD c 0 = y := ⟨_, rfl⟩
  rw [hl] at hc hn ⊢
  rw [hy] at hce ⊢
  clear hr hl hy hb
  have v1 : (c : Int) < (n : Int) := by omega
  by_cases hy0 : y = 0
  · rw [hy0] at hce
    rw [show decide (y ≠ 0) = false from decide_eq_false (by omega)]
    clear hy0
    go_enter Try.func83, Try.ntmps83
    go_wp2_with fail
    go_ret
    exact ⟨rfl, Ext.refl _⟩
  · have v2 : (y != 0) = true := by simpa using hy0
    have v3 : (y == 0) = false := by simpa using hy0
    rw [show decide (y ≠ 0) = true from decide_eq_true hy0]
    go_enter Try.func83, Try.ntmps83
    go_wp2_with fail
    go_ret
    exact ⟨rfl, Ext.refl _⟩

/-- Rows of one length. -/
def Wide (L : List (List Int)) (n : Nat) : Prop := ∀ l ∈ L, l.length = n
theorem Wide.at {L : List (List Int)} {n : Nat} (h : Wide L n) {k : Nat} (hk : k < L.length) : (L.getD k []).length = n := by
  rw [List.getD_eq_getElem?_getD, List.getElem?_eq_getElem hk]
  exact h _ (List.getElem_mem hk)

set_option maxRecDepth 100000 in
theorem isMatrix_any (n : Nat) (h1 : 1 ≤ n) (h2 : n ≤ 64) (v : Value) (L : List (List Int)) (hl : L.length = n) (hw : Wide L n) (w : World) (hr : RL w v L) :
    Calls Try.prog 76 #[v] w fun e w' => e = .returned (.bool true) ∧ Ext w w' := by
  obtain ⟨ad, cap, rfl, q1, q2⟩ := hr.shape
  obtain ⟨b, off, a, c, rfl, cB, hrd⟩ := hr.row 0 (by omega)
  rw [hw.at (by omega), Nat.add_zero] at cB
  have hc := contains1_any 81 w.heap.size (fun _ => false) (.slice (some ⟨b, off, none⟩) L.length cap) L (by omega)
    (w.alloc (.cells #[.slice (some ⟨b, off, none⟩) L.length cap] 26)) (hr.ext ((Ext.refl w).alloc _)) (fun args w => by rfl) (fun k hk u W hX hu => by
      have HB := Blk.new w [.slice (some ⟨b, off, none⟩) L.length cap] 26
      refine isMat1_any w.heap.size b off L.length cap n c a u (L.getD k []) (hw.at hk) (by omega) (by omega) W hu ?_ ?_
      · exact hX.cell (HB.cell 0 _ rfl)
      · exact (((Ext.refl w).alloc _).trans hX).cell cB)
  rw [show L.any (fun _ => false) = false from by simp] at hc
  rw [hl] at hc ⊢
  have v1 : ¬ (n : Int) < 1 := by omega
  have v2 : ¬ (64 : Int) < (n : Int) := by omega
  have v3 : (0 : Int) < (n : Int) := by omega
  have HB := (Blk.new w [.slice (some ⟨b, off, none⟩) n cap] 26).cell 0 _ rfl
  have cB2 := ((Ext.refl w).alloc (.cells #[.slice (some ⟨b, off, none⟩) n cap] 26)).cell cB
  have hX : Hid (Ext w (w.alloc (.cells #[.slice (some ⟨b, off, none⟩) n cap] 26))) := hidden ((Ext.refl w).alloc _)
  replace hc := hidden hc
  clear hr hw hrd hl
  go_enter Try.func76, Try.ntmps76
  go_wp2_with fail
  refine hc.out.mono ?_
  rintro e w5 ⟨rfl, hX5⟩
  go_wp2_with fail
  go_ret
  exact ⟨rfl, hX.out.trans hX5⟩
end Go.Proofs.Ytpfelklhejpnnaa

/- parity.Recovery$1. -/
namespace Go.Proofs.Ytpfelklhejpnnaa
open Go.RowKit
set_option linter.unusedVariables false
set_option linter.unusedSimpArgs false
attribute [local go_sem ↓] Go.wp_at_zero Go.wp_at_succ

theorem rec1_any (x b off k c n c2 : Nat) (a : Option Addr) (v : Value) (l : List Int) (hl : l.length = n) (h1n : 1 ≤ n) (hn : n ≤ 100000) (hk : 0 < k) (w : World) (hr : Rd8 w v l)
    (h0 : w.cell? ⟨x, 0, none⟩ = some (.slice (some ⟨b, off, none⟩) k c)) (h1 : w.cell? ⟨b, off, none⟩ = some (.slice a n c2)) :
    Calls Try.prog 26 #[v, .pointer (some ⟨x, 0, none⟩)] w fun e w' => e = .returned (.bool false) ∧ Ext w w' := by
  obtain ⟨a', c', rfl⟩ := rd8_one hr
  rw [hl]
  clear hr hl
  have v1 : (0 : Int) < (k : Int) := by omega
  have v2 : ((n : Int) == 0) = false := by simp; omega
  have v3 : ¬ (n : Int) = 0 := by omega
  go_enter Try.func26, Try.ntmps26
  go_wp2_with fail
  go_ret
  exact ⟨rfl, Ext.refl _⟩
end Go.Proofs.Ytpfelklhejpnnaa
