/- Lists of byte strings all of which are owned; what the law's losses need, plain. -/
import Derived.Test.YtpfelklhejpnnaaHca
import Derived.Test.YtpfelklhejpnnaaGw
import Derived.Test.YtpfelklhejpnnaaHbc
import Derived.Test.YtpfelklhejpnnaaHpc
namespace Go.Proofs.Ytpfelklhejpnnaa
open Go.RowKit
set_option linter.unusedVariables false
set_option linter.unusedSimpArgs false
attribute [local go_sem ↓] Go.wp_at_zero Go.wp_at_succ

def OLO (w : World) (B : Nat) (v : Value) (L : List (List Int)) (A : Nat → Prop) : Prop :=
  ∃ vs, w.ownsRow B 22 1 v L.length vs ∧ vs.length = L.length ∧ ∀ (i : Nat) (u : Value) (l : List Int), vs[i]? = some u → L[i]? = some l → Own8 w B u l ∧ ∀ x, u.ownBlock = some x → A x
theorem OLO.nil (w : World) (B : Nat) (A : Nat → Prop) : OLO w B (.slice none 0 0) [] A := ⟨[], World.ownsRow_nil _ _ _ _, rfl, fun i u l h _ => by simp at h⟩
theorem OLO.rl {w : World} {B : Nat} {v : Value} {L : List (List Int)} {A : Nat → Prop} (h : OLO w B v L A) : RL w v L := by
  obtain ⟨vs, h1, h2, h3⟩ := h
  refine ⟨vs, Rd.of_own h1, by simp [h2], fun i u C hu hC => ?_⟩
  rw [List.getElem?_map] at hC
  cases e : L[i]? with
  | none => rw [e] at hC; simp at hC
  | some l =>
    rw [e] at hC
    simp at hC
    subst hC
    rw [bs_len]
    exact (h3 i u l hu e).1.rd
theorem OLO.chg {w w' : World} {S : List Nat} {B : Nat} {v : Value} {L : List (List Int)} {A : Nat → Prop} (h : OLO w B v L A) (hC : Chg S w w') (hv : ∀ x ∈ S, v.ownBlock ≠ some x) (hA : ∀ x ∈ S, ∀ y, A y → y ≠ x) : OLO w' B v L A := by
  obtain ⟨vs, h1, h2, h3⟩ := h
  refine ⟨vs, own_chg h1 hC hv, h2, fun i u l hu hl => ?_⟩
  obtain ⟨g1, g2⟩ := h3 i u l hu hl
  exact ⟨own_chg g1 hC (fun x hx e => hA x hx x (g2 x e) rfl), g2⟩
theorem OLO.ext {w w' : World} {B : Nat} {v : Value} {L : List (List Int)} {A : Nat → Prop} (h : OLO w B v L A) (k : Ext w w') : OLO w' B v L A := h.chg (Chg.of_ext [] k) (by simp) (by simp)
theorem OLO.only {w : World} {B : Nat} {v : Value} {L : List (List Int)} {A A' : Nat → Prop} (h : OLO w B v L A) (hA : ∀ x, x < w.heap.size → A x → A' x) : OLO w B v L A' := by
  obtain ⟨vs, h1, h2, h3⟩ := h
  exact ⟨vs, h1, h2, fun i u l hu hl => ⟨(h3 i u l hu hl).1, fun x hx => hA x (own_lt (h3 i u l hu hl).1 hx).2 ((h3 i u l hu hl).2 x hx)⟩⟩
theorem OLO.outer {w : World} {B : Nat} {v : Value} {L : List (List Int)} {A : Nat → Prop} (h : OLO w B v L A) : ∃ vs, w.ownsRow B 22 1 v L.length vs := by
  obtain ⟨vs, h1, -, -⟩ := h
  exact ⟨vs, h1⟩
theorem OLO.shape {w : World} {B : Nat} {v : Value} {L : List (List Int)} {A : Nat → Prop} (h : OLO w B v L A) : ∃ a c, v = .slice a L.length c := by
  obtain ⟨a, c, e, -⟩ := h.rl.shape
  exact ⟨a, c, e⟩
/-- Another list's growth leaves this one as it is. -/
theorem OLO.grown {w w' : World} {B B' n : Nat} {v v2 : Value} {L : List (List Int)} {A : Nat → Prop} {xs : List Value} (h : OLO w B v L A) (h2 : w.ownsRow B' 22 1 v2 n xs) (hg : w.grownBy w' v2.ownBlock) (hne : ∀ x, v2.ownBlock = some x → v.ownBlock ≠ some x) : OLO w' B v L A := by
  obtain ⟨vs, h1, hl, h3⟩ := h
  refine ⟨vs, own_grow_other h1 hg hne, hl, fun i u l hu hl => ?_⟩
  obtain ⟨g1, g2⟩ := h3 i u l hu hl
  refine ⟨own_grow_other g1 hg (fun x hx e => ?_), g2⟩
  exact own_ne_own g1 h2 (by decide) e hx
/-- One owned byte string is appended. -/
theorem wpList_append_olo {ops : Array Oper} {rest : List Oper} {o : Oper} {a : Act} {Q : Exit → Act → World → Prop} (hgd : o.guard = none) (s x : Operand)
    (ho : o.op = .call { callee := .builtin .append, args := #[s, x], argTypes := #[26, 26] })
    (B : Nat) (w7 : World) (u : Value) (L : List (List Int)) (A : Nat → Prop) (hs : a.eval s = u) (hO : OLO w7 B u L A) (hB : B ≤ w7.heap.size) (ua : Option Addr) (n uc : Nat) (D : List Int) (hD : Own8 w7 B (.slice ua n uc) D) (hA : ∀ x, (Value.slice ua n uc).ownBlock = some x → A x)
    (hx : a.eval x = .slice (some ⟨w7.heap.size, 0, none⟩) 1 1) (hL : L.length ≤ 1000000)
    (h : ∀ v' w', OLO w' B v' (L ++ [D]) A → (w7.alloc (.cells #[.slice ua n uc] 22)).grownBy w' u.ownBlock → (v'.ownBlock = u.ownBlock ∨ v'.ownBlock = some (w7.alloc (.cells #[.slice ua n uc] 22)).heap.size) → wpList Try.prog ops Q rest (a.put o.dst v') w') :
    wpList Try.prog ops Q (o :: rest) a (w7.alloc (.cells #[.slice ua n uc] 22)) := by
  have hrd : Rd (w7.alloc (.cells #[.slice ua n uc] 22)) 1 (.slice (some ⟨w7.heap.size, 0, none⟩) 1 1) 1 [.slice ua n uc] := rd_of_blkS (Blk.new w7 [.slice ua n uc] 22) rfl (by omega)
  have hX : Ext w7 (w7.alloc (.cells #[.slice ua n uc] 22)) := (Ext.refl w7).alloc _
  obtain ⟨i0, hi, hz0, hz1, hz2⟩ := info_parts s8info
  obtain ⟨vs, h1, h2, h3⟩ := hO.ext hX
  refine wpList_append_rd hgd s x 26 ho B 22 i0 (.slice none 0 0) 1 24 Try.underlying26 hi hz0 hz1 hz2 rfl (by decide) u L.length vs hs h1 (some ⟨w7.heap.size, 0, none⟩) 1 1 [.slice ua n uc] hx hrd (by simp [Value.oneCell']) (by unfold maxLen; omega) (by omega) (Nat.le_trans hB hX.size) ?_
  intro v' w' hown hgrow hat
  refine h v' w' ⟨vs ++ [.slice ua n uc], by simpa using hown, by simp [h2], fun i u' l hu hl => ?_⟩ hgrow hat
  by_cases hil : i < vs.length
  · rw [List.getElem?_append_left hil] at hu
    rw [List.getElem?_append_left (by omega)] at hl
    obtain ⟨g1, g2⟩ := h3 i u' l hu hl
    exact ⟨own_grow_other g1 hgrow (fun x hx e => own_ne_own g1 h1 (by decide) e hx), g2⟩
  · have hie : i = vs.length := by
      have := (List.getElem?_eq_some_iff.1 hu).1
      simp at this
      omega
    rw [hie, List.getElem?_concat_length] at hu
    rw [hie, h2, List.getElem?_concat_length] at hl
    cases hu
    cases hl
    exact ⟨own_grow_other (own_ext hD hX) hgrow (fun x hx e => own_ne_own (own_ext hD hX) h1 (by decide) e hx), hA⟩
/-- A whole list is appended. -/
theorem wpList_append_olos {w : World} {ops : Array Oper} {rest : List Oper} {o : Oper} {a : Act} {Q : Exit → Act → World → Prop} (hgd : o.guard = none) (s x : Operand)
    (ho : o.op = .call { callee := .builtin .append, args := #[s, x], argTypes := #[26, 26] })
    (B : Nat) (u u2 : Value) (L C : List (List Int)) (A : Nat → Prop) (hs : a.eval s = u) (hO : OLO w B u L A) (hB : B ≤ w.heap.size) (hx : a.eval x = u2) (hO2 : OLO w B u2 C A) (hL : L.length + C.length ≤ 1000000)
    (h : ∀ v' w', OLO w' B v' (L ++ C) A → w.grownBy w' u.ownBlock → (∀ x, u.ownBlock = some x → B ≤ x) → wpList Try.prog ops Q rest (a.put o.dst v') w') :
    wpList Try.prog ops Q (o :: rest) a w := by
  obtain ⟨i0, hi, hz0, hz1, hz2⟩ := info_parts s8info
  obtain ⟨vs, h1, h2, h3⟩ := hO
  obtain ⟨us, k1, k2, k3⟩ := hO2
  have hone : ∀ q ∈ us, q.oneCell' = true := fun q hq => by
    obtain ⟨i, hi, rfl⟩ := List.mem_iff_getElem.1 hq
    have g := (k3 i _ _ (List.getElem?_eq_getElem hi) (List.getElem?_eq_getElem (by omega))).1
    obtain ⟨a, c, e⟩ := rd8_one g.rd
    rw [e]
    rfl
  have hR2 := Rd.of_own k1
  obtain ⟨ua, uc, rfl, -⟩ := Rd.shape hR2
  refine wpList_append_rd hgd s x 26 ho B 22 i0 (.slice none 0 0) 1 24 Try.underlying26 hi hz0 hz1 hz2 rfl (by decide) u L.length vs hs h1 ua C.length uc us hx hR2 hone (by unfold maxLen; omega) (by omega) hB ?_
  intro v' w' hown hgrow hat
  refine h v' w' ⟨vs ++ us, by rw [List.length_append]; exact hown, by simp [h2, k2], fun i u' l hu hl => ?_⟩ hgrow (fun x hx => (own_lt h1 hx).1)
  by_cases hil : i < vs.length
  · rw [List.getElem?_append_left hil] at hu
    rw [List.getElem?_append_left (by omega)] at hl
    obtain ⟨g1, g2⟩ := h3 i u' l hu hl
    exact ⟨own_grow_other g1 hgrow (fun x hx e => own_ne_own g1 h1 (by decide) e hx), g2⟩
  · rw [List.getElem?_append_right (by omega)] at hu
    rw [List.getElem?_append_right (by omega), ← h2] at hl
    obtain ⟨g1, g2⟩ := k3 _ u' l hu hl
    exact ⟨own_grow_other g1 hgrow (fun x hx e => own_ne_own g1 h1 (by decide) e hx), g2⟩
/-- A beginning of an owned slice. -/
theorem own_cut {w : World} {B n cap : Nat} {a : Option Addr} {D : List Int} (h : Own8 w B (.slice a n cap) D) (hn : D.length = n) (k : Nat) (hk : k ≤ n) :
    (∀ w, (Instr.sliceAt 22 (.slice a n cap) none (some (.int .i64 (k : Int))) none).run Try.prog w = .ok (.slice a k cap) w) ∧ Own8 w B (.slice a k cap) (D.take k) := by
  have hR : Rd w 1 (.slice a n cap) n (bs D) := by have := h.rd; unfold Rd8 at this; rw [hn] at this; exact this
  have hcap := hR.cap
  constructor
  · intro w
    have he : Try.prog.elem 22 = 5 := by unfold Program.elem; rw [Try.underlying22]
    have ht : Try.prog.underlying 22 = some (.slice (Try.prog.elem 22)) := by rw [he]; exact Try.underlying22
    rw [run_sliceAt_slice w 22 _ _ _ _ ht, run_slice_h w 22 _ _ _ ht _ _ (by omega) (by omega), he, Try.sizeOf5]
    have hsl : Go.sliced a 0 (k : Int).toNat cap 1 = .slice a k cap := by
      unfold Go.sliced
      rw [Int.toNat_natCast, Nat.sub_zero, Nat.sub_zero]
      cases a with
      | none => simp
      | some ad => simp [Addr.add]
    show Result.ok (Go.sliced a 0 (k : Int).toNat cap 1) w = _
    rw [hsl]
  · unfold Own8 at h ⊢
    rw [hn] at h
    have hlk : (D.take k).length = k := by rw [List.length_take]; omega
    rw [hlk]
    refine ⟨by rw [bs_len]; omega, ?_⟩
    rcases h.2 with ⟨e1, e2⟩ | ⟨g, c, cur, hv, hb, hg, q1, q2, q3, q4⟩
    · simp only [Value.slice.injEq] at e1
      obtain ⟨rfl, rfl, rfl⟩ := e1
      obtain rfl : k = 0 := by omega
      exact Or.inl ⟨rfl, by simp [bs]⟩
    · simp only [Value.slice.injEq] at hv
      obtain ⟨rfl, -, rfl⟩ := hv
      refine Or.inr ⟨g, cap, cur, rfl, hb, hg, by omega, q2, q3, ?_⟩
      have := congrArg (List.take k) q4
      rw [List.take_take] at this
      simp only [Nat.mul_one] at this ⊢
      rw [Nat.min_eq_left hk] at this
      rw [this]
      simp [bs, List.map_take]
/-- How many of the first losses meet an index; .. an index below a bound. -/
def cntE (q : Nat → Nat) (j i : Nat) : Nat := ((List.range j).filter fun t => decide (q t = i)).length
def cntL (q : Nat → Nat) (m k : Nat) : Nat := ((List.range m).filter fun t => decide (q t < k)).length
theorem cntE_succ (q : Nat → Nat) (j i : Nat) : cntE q (j + 1) i = cntE q j i + (if q j = i then 1 else 0) := by
  unfold cntE
  rw [List.range_succ, List.filter_append, List.length_append]
  by_cases h : q j = i <;> simp [h]
theorem cntL_succ (q : Nat → Nat) : ∀ (m k : Nat), cntL q m (k + 1) = cntL q m k + cntE q m k
  | 0, k => rfl
  | m + 1, k => by
    have ih := cntL_succ q m k
    have e : ∀ k, cntL q (m + 1) k = cntL q m k + (if q m < k then 1 else 0) := fun k => by
      unfold cntL
      rw [List.range_succ, List.filter_append, List.length_append]
      by_cases h : q m < k <;> simp [h]
    rw [e, e, cntE_succ, ih]
    by_cases h1 : q m < k
    · rw [if_pos (by omega), if_pos h1, if_neg (by omega)]; omega
    · by_cases h2 : q m = k
      · rw [if_pos (by omega), if_neg h1, if_pos h2]; omega
      · rw [if_neg (by omega), if_neg h1, if_neg h2]; omega
theorem cntL_le (q : Nat → Nat) (m k : Nat) : cntL q m k ≤ m := by
  have := List.length_filter_le (fun t => decide (q t < k)) (List.range m)
  simpa [cntL] using this
theorem cntL_zero (q : Nat → Nat) (m : Nat) : cntL q m 0 = 0 := by simp [cntL]
def fB (cs : List Value) (k : Nat) : Nat := match cs.getD k undef with | .int _ x => x.toNat | _ => 0
def U8s (cs : List Value) : Prop := ∀ u ∈ cs, ∃ x : Nat, x < 256 ∧ u = .int .u8 (x : Int)
theorem U8s.at {cs : List Value} (h : U8s cs) {k : Nat} (hk : k < cs.length) : cs.getD k undef = .int .u8 (fB cs k : Int) ∧ fB cs k < 256 := by
  have hm : cs.getD k undef ∈ cs := by
    rw [List.getD_eq_getElem?_getD, List.getElem?_eq_getElem hk]
    exact List.getElem_mem _
  obtain ⟨x, hx, e⟩ := h _ hm
  unfold fB
  rw [e]
  exact ⟨by simp, by simpa using hx⟩
end Go.Proofs.Ytpfelklhejpnnaa
