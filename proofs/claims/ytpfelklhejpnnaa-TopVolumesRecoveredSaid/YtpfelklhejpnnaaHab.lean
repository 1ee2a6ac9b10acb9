/- Owned lists of byte strings whose rows are fresh (OLF). -/
import Derived.Test.YtpfelklhejpnnaaGy
import Derived.Deep.RegionLaw
import Derived.Test.YtpfelklhejpnnaaHaa
namespace Go.Proofs.Ytpfelklhejpnnaa
open Go.RowKit
set_option linter.unusedVariables false
set_option linter.unusedSimpArgs false

/-- As OL; each row's block is one from B on. -/
def OLF (w : World) (B : Nat) (v : Value) (L : List (List Int)) : Prop := ∃ vs, w.ownsRow B 22 1 v L.length vs ∧ RdC w vs (L.map bs) ∧ (∀ i u, vs[i]? = some u → 0 < (L.getD i []).length → ∀ g, v.ownBlock = some g → u.ownBlock ≠ some g) ∧ ∀ (i : Nat) (u : Value), vs[i]? = some u → ∀ g, u.ownBlock = some g → B ≤ g
theorem OLF.ol {w : World} {B : Nat} {v : Value} {L : List (List Int)} (h : OLF w B v L) : OL w B v L := by
  obtain ⟨vs, h1, h2, h3, -⟩ := h
  exact ⟨vs, h1, h2, h3⟩
theorem OLF.ext {w w' : World} {B : Nat} {v : Value} {L : List (List Int)} (h : OLF w B v L) (k : Ext w w') : OLF w' B v L := by
  obtain ⟨vs, h1, h2, h3, h4⟩ := h
  exact ⟨vs, own_ext h1 k, h2.ext k, h3, h4⟩
theorem OLF.nil (w : World) (B : Nat) : OLF w B (.slice none 0 0) [] := ⟨[], World.ownsRow_nil _ _ _ _, ⟨rfl, fun i v C h _ => by simp at h⟩, fun i u h _ => by simp at h, fun i u h => by simp at h⟩
/-- Several byte strings are appended: those of a fresh list behind B'. -/
theorem wpList_append_rows {w : World} {ops : Array Oper} {rest : List Oper} {o : Oper} {a : Act} {Q : Exit → Act → World → Prop} (hgd : o.guard = none) (s x : Operand)
    (ho : o.op = .call { callee := .builtin .append, args := #[s, x], argTypes := #[26, 26] })
    (B B' : Nat) (v : Value) (L : List (List Int)) (hs : a.eval s = v) (hO : OL w B v L) (u : Value) (C : List (List Int)) (hx : a.eval x = u) (hC : OLF w B' u C) (hlt : ∀ g, v.ownBlock = some g → g < B') (hL : L.length + C.length ≤ 1000000) (hbase : B ≤ w.heap.size)
    (h : ∀ v' w', OL w' B v' (L ++ C) → w.grownBy w' v.ownBlock → (v'.ownBlock = v.ownBlock ∨ v'.ownBlock = some w.heap.size) → wpList Try.prog ops Q rest (a.put o.dst v') w') :
    wpList Try.prog ops Q (o :: rest) a w := by
  obtain ⟨vs, h1, h2, h3⟩ := hO
  obtain ⟨us, k1, k2, -, k4⟩ := hC
  obtain ⟨i0, hi, hz0, hz1, hz2⟩ := info_parts s8info
  have hvl : vs.length = L.length := by have := h1.1; omega
  have hul : us.length = C.length := by have := k1.1; omega
  have hone : ∀ q ∈ us, q.oneCell' = true := fun q hq => by
    obtain ⟨i, hi, rfl⟩ := List.mem_iff_getElem.1 hq
    have e1 : us[i]? = some us[i] := List.getElem?_eq_getElem hi
    have e2 : (C.map bs)[i]? = some (bs (C[i]'(by omega))) := by rw [List.getElem?_map, List.getElem?_eq_getElem (by omega)]; rfl
    obtain ⟨a, c, e, -⟩ := Rd.shape (k2.2 i _ _ e1 e2)
    rw [e]
    rfl
  have hRu := Rd.of_own k1
  obtain ⟨ad, cp, rfl, -⟩ := Rd.shape hRu
  refine wpList_append_rd hgd s x 26 ho B 22 i0 (.slice none 0 0) 1 24 Try.underlying26 hi hz0 hz1 hz2 rfl (by decide) v L.length vs hs h1 ad C.length cp us hx hRu hone (by unfold maxLen; omega) (by omega) hbase ?_
  intro v' w' hown hgrow hat
  have hCh : Chg v.ownBlock.toList w w' := (Chg.refl v.ownBlock.toList w).grown hgrow (fun k hk => Or.inl (by rw [hk]; simp))
  have hold : ∀ (i : Nat) (q : Value), vs[i]? = some q → 0 < (L.getD i []).length → ∃ l, L[i]? = some l ∧ L.getD i [] = l := fun i q hq _ => by
    have := (List.getElem?_eq_some_iff.1 hq).1
    exact ⟨L[i]'(by omega), List.getElem?_eq_getElem (by omega), by simp [List.getD, show i < L.length from by omega]⟩
  refine h v' w' ⟨vs ++ us, by simpa using hown, ⟨by simp [hvl, hul], fun i q D hv hc => ?_⟩, fun i q hv hl g hg => ?_⟩ hgrow hat
  · by_cases hil : i < vs.length
    · rw [List.getElem?_append_left hil] at hv
      rw [List.map_append, List.getElem?_append_left (by simp; omega)] at hc
      refine (h2.2 i q D hv hc).chg hCh (fun g hg h0 => ?_)
      have hLi : L[i]? = some (L.getD i []) := by simp [List.getD, show i < L.length from by omega]
      rw [List.getElem?_map, hLi] at hc
      simp at hc
      subst hc
      exact h3 i q hv (by simpa [bs] using h0) g (by simpa using hg)
    · rw [List.getElem?_append_right (by omega)] at hv
      rw [List.map_append, List.getElem?_append_right (by simp; omega)] at hc
      rw [List.length_map, ← hvl] at hc
      refine (k2.2 _ q D hv hc).chg hCh (fun g hg h0 e => ?_)
      have q1 := hlt g (by simpa using hg)
      have q2 := k4 _ q hv g e
      omega
  · by_cases hil : i < vs.length
    · rw [List.getElem?_append_left hil] at hv
      rw [List.getD_eq_getElem?_getD, List.getElem?_append_left (by omega), ← List.getD_eq_getElem?_getD] at hl
      rcases hat with e | e
      · exact h3 i q hv hl g (by rw [← e]; exact hg)
      · rw [e] at hg
        have hh : w.heap.size = g := by simpa using hg
        have hLi : L[i]? = some (L.getD i []) := by simp [List.getD, show i < L.length from by omega]
        have := h2.2 i q (bs (L.getD i [])) hv (by rw [List.getElem?_map, hLi]; rfl)
        exact Rd.off this (by omega) (by rw [bs_len]; exact hl)
    · rw [List.getElem?_append_right (by omega)] at hv
      rw [List.getD_eq_getElem?_getD, List.getElem?_append_right (by omega), ← hvl, ← List.getD_eq_getElem?_getD] at hl
      rcases hat with e | e
      · intro e2
        have q1 := hlt g (by rw [← e]; exact hg)
        have q2 := k4 _ q hv g e2
        omega
      · rw [e] at hg
        have hh : w.heap.size = g := by simpa using hg
        have hj := (List.getElem?_eq_some_iff.1 hv).1
        have hCi : C[i - vs.length]? = some (C.getD (i - vs.length) []) := by simp [List.getD, show i - vs.length < C.length from by omega]
        have := k2.2 _ q (bs (C.getD (i - vs.length) [])) hv (by rw [List.getElem?_map, hCi]; rfl)
        exact Rd.off this (by omega) (by rw [bs_len]; exact hl)
end Go.Proofs.Ytpfelklhejpnnaa

/- Cauchy with fresh rows. -/
namespace Go.Proofs.Ytpfelklhejpnnaa
open Go.RowKit
set_option linter.unusedVariables false
set_option linter.unusedSimpArgs false

attribute [local go_sem ↓] Go.wp_at_zero Go.wp_at_succ
theorem OLF.base {w : World} {B B' : Nat} {v : Value} {L : List (List Int)} (h : OLF w B v L) (hB : B' ≤ B) : OLF w B' v L := by
  obtain ⟨vs, ⟨h0, h1⟩, h2, h3, h4⟩ := h
  refine ⟨vs, ⟨h0, ?_⟩, h2, h3, fun i u hu g hg => Nat.le_trans hB (h4 i u hu g hg)⟩
  rcases h1 with h1 | ⟨g, cap, cur, e1, e2, e3⟩
  · exact Or.inl h1
  · exact Or.inr ⟨g, cap, cur, e1, by omega, e3⟩
/-- One byte string is appended. -/
theorem wpList_append_rowF {w : World} {ops : Array Oper} {rest : List Oper} {o : Oper} {a : Act} {Q : Exit → Act → World → Prop} (hgd : o.guard = none) (s x : Operand)
    (ho : o.op = .call { callee := .builtin .append, args := #[s, x], argTypes := #[26, 26] })
    (B : Nat) (v : Value) (L : List (List Int)) (hs : a.eval s = v) (hO : OLF w B v L) (u : Value) (l : List Int) (hu : Rd8 w u l) (hne : 0 < l.length → ∀ g, v.ownBlock = some g → u.ownBlock ≠ some g)
    (hfr : ∀ g, u.ownBlock = some g → B ≤ g) (y : Option Addr) (c : Nat) (hx : a.eval x = .slice y 1 c) (hr : Rd w 1 (.slice y 1 c) 1 [u]) (hL : L.length ≤ 1000000) (hbase : B ≤ w.heap.size)
    (h : ∀ v' w', OLF w' B v' (L ++ [l]) → w.grownBy w' v.ownBlock → (v'.ownBlock = v.ownBlock ∨ v'.ownBlock = some w.heap.size) → wpList Try.prog ops Q rest (a.put o.dst v') w') :
    wpList Try.prog ops Q (o :: rest) a w := by
  obtain ⟨vs, h1, h2, h3, h4⟩ := hO
  obtain ⟨i0, hi, hz0, hz1, hz2⟩ := info_parts s8info
  have hvl : vs.length = L.length := by have := h1.1; omega
  obtain ⟨ua, uc, rfl⟩ := rd8_one hu
  refine wpList_append_rd hgd s x 26 ho B 22 i0 (.slice none 0 0) 1 24 Try.underlying26 hi hz0 hz1 hz2 rfl (by decide) v L.length vs hs h1 y 1 c [.slice ua l.length uc] hx hr (by simp [Value.oneCell']) (by unfold maxLen; omega) (by omega) hbase ?_
  intro v' w' hown hgrow hat
  have hC : Chg v.ownBlock.toList w w' := (Chg.refl v.ownBlock.toList w).grown hgrow (fun k hk => Or.inl (by rw [hk]; simp))
  have hr9 : ∀ (i : Nat) (u' : Value) (C : List Value), vs[i]? = some u' → (L.map bs)[i]? = some C → Rd w' 1 u' C.length C := fun i u' C hv hc => by
    refine (h2.2 i u' C hv hc).chg hC (fun g hg h0 => ?_)
    have hg' : v.ownBlock = some g := by simpa using hg
    refine h3 i u' hv ?_ g hg'
    rw [List.getElem?_map] at hc
    cases hLi : L[i]? with
    | none => rw [hLi] at hc; simp at hc
    | some li =>
      rw [hLi] at hc
      simp at hc
      subst hc
      rw [List.getD_eq_getElem?_getD, hLi]
      simpa [bs] using h0
  refine h v' w' ⟨vs ++ [.slice ua l.length uc], by simpa using hown, ⟨by simp [hvl], fun i u' C hv hc => ?_⟩, fun i u' hv hl g hg => ?_, fun i u' hv g hg => ?_⟩ hgrow hat
  · by_cases hil : i < vs.length
    · rw [List.getElem?_append_left hil] at hv
      rw [List.map_append, List.getElem?_append_left (by simp; omega)] at hc
      exact hr9 i u' C hv hc
    · have hie : i = vs.length := by
        have := (List.getElem?_eq_some_iff.1 hv).1
        simp at this
        omega
      rw [hie, List.getElem?_concat_length] at hv
      rw [hie, hvl, List.map_append, List.getElem?_append_right (by simp)] at hc
      simp at hv hc
      subst hv hc
      rw [bs_len]
      exact Rd.chg hu hC (fun g hg h0 => hne h0 g (by simpa using hg))
  · by_cases hil : i < vs.length
    · rw [List.getElem?_append_left hil] at hv
      rw [List.getD_eq_getElem?_getD, List.getElem?_append_left (by omega), ← List.getD_eq_getElem?_getD] at hl
      rcases hat with e | e
      · exact h3 i u' hv hl g (by rw [← e]; exact hg)
      · rw [e] at hg
        have hh : w.heap.size = g := by simpa using hg
        have hLi : L[i]? = some (L.getD i []) := by simp [List.getD, show i < L.length from by omega]
        have := h2.2 i u' (bs (L.getD i [])) hv (by rw [List.getElem?_map, hLi]; rfl)
        exact Rd.off this (by omega) (by rw [bs_len]; exact hl)
    · have hie : i = vs.length := by
        have := (List.getElem?_eq_some_iff.1 hv).1
        simp at this
        omega
      rw [hie, List.getElem?_concat_length] at hv
      rw [hie, hvl, List.getD_eq_getElem?_getD, List.getElem?_concat_length] at hl
      simp at hv hl
      subst hv
      rcases hat with e | e
      · exact hne (by omega) g (by rw [← e]; exact hg)
      · rw [e] at hg
        have hh : w.heap.size = g := by simpa using hg
        exact Rd.off hu (by omega) (by omega)
  · by_cases hil : i < vs.length
    · rw [List.getElem?_append_left hil] at hv
      exact h4 i u' hv g hg
    · have hie : i = vs.length := by
        have := (List.getElem?_eq_some_iff.1 hv).1
        simp at this
        omega
      rw [hie, List.getElem?_concat_length] at hv
      simp at hv
      subst hv
      exact hfr g hg
set_option maxRecDepth 100000 in
set_option maxHeartbeats 1000000 in
theorem cauchyF_any (r c : Nat) (hr : 1 ≤ r) (hc : 1 ≤ c) (hrc : r + c ≤ 64) (w : World) :
    Calls Try.prog 42 #[.int .i64 (r : Int), .int .i64 (c : Int)] w fun e w' => ∃ v, e = .returned (.tuple #[v, .int .i64 0]) ∧ OLF w' w.heap.size v (cauF r c) ∧ Ext w w' := by
  have hf := field_any w
  have hm := fun g a (ha : a < 256) W (h : Tab W g) => tinv_any g a ha W h
  replace hf := hidden hf
  replace hm := hidden hm
  obtain ⟨i0, hi, hz0, hz1, hz2⟩ := info_parts u8info
  replace hi := hidden hi
  have f3 : ¬ (c : Int) < 1 := by omega
  have f4 : ¬ (r : Int) < 1 := by omega
  have f5 : ¬ (64 : Int) < c := by omega
  have f6 : ¬ (64 : Int) < r := by omega
  have f7 : (r < c ∧ ¬ c < r) ∨ (¬ r < c ∧ ¬ c < r) ∨ (¬ r < c ∧ c < r) := by omega
  rcases f7 with ⟨f1, f2⟩ | ⟨f1, f2⟩ | ⟨f1, f2⟩
  all_goals (
    go_enter Try.func42, Try.ntmps42
    go_wp2_with fail
    refine hf.out.mono ?_
    rintro e w1 ⟨g, rfl, hT, -, hX1⟩
    replace hT := hidden hT
    replace hX1 := hidden hX1
    clear f1 f2 f3 f4 f5 f6
    go_wp2_with fail
    go_loopw [7, 23] (fun u i wr => ∃ k : Nat, i = .int .i64 (k : Int) ∧ k ≤ r ∧ Hid (OLF wr w1.heap.size u ((cauF r c).take k)) ∧ Hid (Ext w1 wr)) (fun _ i _ => r - (intOf i).toNat)
    case atStart => exact ⟨0, rfl, by omega, hidden (OLF.nil _ _), hidden (Ext.refl w1)⟩
    case round =>
      obtain ⟨i, rfl, hi1, hO, hX⟩ := hrel
      have v1 : IntKind.i64.wrap ((i : Int) + 1) = (i : Int) + 1 := IntWalk.i64_in _ (by omega)
      obtain ⟨w2, hWW⟩ : ∃ X, X = wr := ⟨_, rfl⟩
      subst hWW
      have hX2 : Hid (Ext w w2) := hidden (hX1.out.trans hX.out)
      have hT2 : Hid (Tab w2 g) := hidden (hT.out.ext hX.out)
      by_cases hlt : i < r
      · have hlt2 : (i : Int) < (r : Int) := by omega
        have v2 : IntKind.u8.wrap (i : Int) = (i : Int) := IntWalk.u8_in _ (by omega)
        go_upto_region 10 with fail
        go_loopw [9, 27] (fun u2 j wr2 => ∃ k : Nat, j = .int .i64 (k : Int) ∧ k ≤ c ∧ Hid (Own8 wr2 w2.heap.size u2 ((cauR r c i).take k)) ∧ Hid (Ext w2 wr2)) (fun _ j _ => c - (intOf j).toNat)
        case atStart => exact ⟨0, rfl, by omega, hidden (World.ownsRow_nil _ _ _ _), hidden (Ext.refl w2)⟩
        case round =>
          obtain ⟨k, rfl, hk1, hO2, hX3⟩ := hrel
          have v3 : IntKind.i64.wrap ((k : Int) + 1) = (k : Int) + 1 := IntWalk.i64_in _ (by omega)
          obtain ⟨w3, hWW⟩ : ∃ X, X = wr := ⟨_, rfl⟩
          subst hWW
          by_cases hlk : k < c
          · have hlk2 : (k : Int) < (c : Int) := by omega
            have v4 : IntKind.i64.wrap ((r : Int) + (k : Int)) = (r : Int) + (k : Int) := IntWalk.i64_in _ (by omega)
            have v5 : IntKind.u8.wrap ((r : Int) + (k : Int)) = ((r + k : Nat) : Int) := by rw [IntWalk.u8_in _ (by omega)]; omega
            have v6 : bits .xor .u8 (i : Int) ((r + k : Nat) : Int) = ((i ^^^ (r + k) : Nat) : Int) := bits_xor8 i (r + k) (by omega) (by omega)
            have hlx : i ^^^ (r + k) < 256 := Gf.xor_lt (by omega) (by omega)
            have htk := cauR_take r c i k hlk
            obtain ⟨x, hx⟩ : ∃ x, i ^^^ (r + k) = x := ⟨_, rfl⟩
            obtain ⟨y, hy⟩ : ∃ y, Gf.inv x = y := ⟨_, rfl⟩
            obtain ⟨z, hz⟩ : ∃ z : Nat, r + k = z := ⟨_, rfl⟩
            rw [hx, hy] at htk
            rw [hx] at hlx v6
            rw [hz] at v5 v6
            have hcl := hm.out g x hlx w3 (hT2.out.ext hX3.out)
            rw [hy] at hcl
            replace hcl := hidden hcl
            replace htk := hidden htk
            clear hx hy hz
            have hD := take_len (cauR_len r c i) (show k ≤ c by omega)
            obtain ⟨D, hDe⟩ : ∃ D, (cauR r c i).take k = D := ⟨_, rfl⟩
            have hO3 : Hid (Own8 w3 w2.heap.size u9 D) := hidden (hDe ▸ hO2.out)
            rw [hDe] at hD
            go_upto_region 12 with fail
            go_wp2_with fail
            refine hcl.out.mono ?_
            rintro e w4 ⟨rfl, q, rfl⟩
            have hE : Hid (Ext w3 (w3.drewN q)) := hidden ((Ext.refl w3).drewN q)
            obtain ⟨w4, hw4⟩ : ∃ W, w3.drewN q = W := ⟨_, rfl⟩
            rw [hw4] at hE ⊢
            clear hw4 hcl
            have hO4 : Hid (Own8 (w4.alloc (.cells #[.int .u8 (y : Int)] 5)) w2.heap.size u9 D) := hidden (own_ext hO3.out (hE.out.alloc _))
            have hrd : Hid (Rd (w4.alloc (.cells #[.int .u8 (y : Int)] 5)) 1 (.slice (some ⟨w4.heap.size, 0, none⟩) 1 1) 1 (bs [(y : Int)])) := hidden (rd_of_blkS (Blk.new w4 (bs [(y : Int)]) 5) rfl (by omega))
            have hbz : w2.heap.size ≤ (w4.alloc (.cells #[.int .u8 (y : Int)] 5)).heap.size := (hX3.out.trans (hE.out.alloc _)).size
            go_wp2_with (at_builtin; refine wpList_append_rd rfl _ _ 22 rfl w2.heap.size 5 i0 (.int .u8 0) 1 1 Try.underlying22 hi.out hz0 hz1 hz2 rfl (by decide) u9 D.length (bs D) rfl hO4.out (some ⟨w4.heap.size, 0, none⟩) 1 1 (bs [(y : Int)]) rfl hrd.out (bs_one _) (by unfold maxLen; omega) (by omega) hbz ?_; intro v3 w5 hown hgrow hat)
            have hX5 : Ext w2 w5 := Chg.ext ((Chg.of_ext [] (hX3.out.trans (hE.out.alloc _))).grown hgrow (fun y hy => Or.inr (own_lt hO4.out hy).1))
            exact ⟨⟨k + 1, by go_num, by omega, hidden (by rw [htk.out, hDe]; unfold Own8; rw [bs_app, List.length_append]; exact hown), hidden hX5⟩, by simp [intOf]; omega⟩
          · have hke : k = c := by omega
            have hO3 := hO2.out
            rw [hke, List.take_of_length_le (by rw [cauR_len]; omega)] at hO3
            have hk8 : decide ((k : Int) < (c : Int)) = false := decide_eq_false (by omega)
            have htk := cauF_take r c i hlt
            obtain ⟨D, hDe⟩ : ∃ D, cauR r c i = D := ⟨_, rfl⟩
            rw [hDe] at hO3 htk
            have hDl := take_len (cauF_len r c) (show i ≤ r by omega)
            obtain ⟨L, hLe⟩ : ∃ L, (cauF r c).take i = L := ⟨_, rfl⟩
            have hO6 : OLF w2 w1.heap.size u7 L := hLe ▸ hO.out
            rw [hLe] at hDl htk
            obtain ⟨ua, uc, rfl⟩ := rd8_one hO3.rd
            obtain ⟨dn, hdn⟩ : ∃ n, D.length = n := ⟨_, rfl⟩
            rw [hdn] at hO3
            have hO7 := hO6.ext (hX3.out.alloc (.cells #[.slice ua dn uc] 22))
            have hrd : Hid (Rd (w3.alloc (.cells #[.slice ua dn uc] 22)) 1 (.slice (some ⟨w3.heap.size, 0, none⟩) 1 1) 1 [.slice ua dn uc]) := hidden (rd_of_blkS (Blk.new w3 [.slice ua dn uc] 22) rfl (by omega))
            have hu := hO3.rd.ext ((Ext.refl w3).alloc (.cells #[.slice ua dn uc] 22))
            have hne : 0 < D.length → ∀ g, u7.ownBlock = some g → (Value.slice ua dn uc).ownBlock ≠ some g := fun _ q hq hq2 => by
              have := (hO6.ol.lt hq).2
              have := (own_lt hO3 hq2).1
              omega
            have hbz : w1.heap.size ≤ (w3.alloc (.cells #[.slice ua dn uc] 22)).heap.size := (hX.out.trans (hX3.out.alloc _)).size
            have hlt9 : ∀ y, u7.ownBlock = some y → w1.heap.size ≤ y := fun y hy => (hO6.ol.lt hy).1
            have hfr9 : Hid (∀ g, (Value.slice ua dn uc).ownBlock = some g → w1.heap.size ≤ g) := hidden (fun g hg => by have k1 := (own_lt hO3 hg).1; have k2 := hX.out.size; omega)
            replace hO7 := hidden hO7
            replace hu := hidden hu
            replace hne := hidden hne
            replace htk := hidden htk
            replace hlt9 := hidden hlt9
            clear hO3 hO2 hO6 hO
            go_wp2_with (at_builtin; refine wpList_append_rowF rfl _ _ rfl w1.heap.size u7 L rfl hO7.out (.slice ua dn uc) D hu.out hne.out hfr9.out (some ⟨w3.heap.size, 0, none⟩) 1 rfl hrd.out (by omega) hbz ?_; intro v3 w5 hown hgrow hat)
            have hX5 : Ext w1 w5 := Chg.ext ((Chg.of_ext [] (hX.out.trans (hX3.out.alloc _))).grown hgrow (fun y hy => Or.inr (hlt9.out y hy)))
            exact ⟨⟨i + 1, by go_num, by omega, hidden (by rw [htk.out]; exact hown), hidden hX5⟩, by simp [intOf]; omega⟩
      · have hke : i = r := by omega
        have hO3 := hO.out
        rw [hke, List.take_of_length_le (by rw [cauF_len]; omega)] at hO3
        have hk8 : decide ((i : Int) < (r : Int)) = false := decide_eq_false (by omega)
        replace hO3 := hidden hO3
        go_wp2_with fail
        refine bodyPost_ret (results_tmp2 rfl _ _ _) rfl ?_
        exact ⟨_, rfl, hO3.out.base hX1.out.size, hX2.out⟩)
end Go.Proofs.Ytpfelklhejpnnaa

/- parity.matrix. -/
namespace Go.Proofs.Ytpfelklhejpnnaa
open Go.RowKit
set_option linter.unusedVariables false
set_option linter.unusedSimpArgs false
attribute [local go_sem ↓] Go.wp_at_zero Go.wp_at_succ

/-- Like OL.set, where new blocks were written too. -/
theorem OL.put {w w' : World} {S : List Nat} {B ob n cap : Nat} {L : List (List Int)} (h : OL w B (.slice (some ⟨ob, 0, none⟩) n cap) L) {i : Nat} (hi : i < n) {u : Value} {l : List Int} (hu : Rd8 w' u l) (hne : 0 < l.length → u.ownBlock ≠ some ob)
    (hs : ∀ vs, w.ownsRow B 22 1 (.slice (some ⟨ob, 0, none⟩) n cap) n vs → w'.ownsRow B 22 1 (.slice (some ⟨ob, 0, none⟩) n cap) n (vs.set i u)) (hC : Chg S w w') (hS : ∀ x ∈ S, x = ob ∨ w.heap.size ≤ x) :
    OL w' B (.slice (some ⟨ob, 0, none⟩) n cap) (L.set i l) := by
  have hLn := h.rl.len
  obtain ⟨vs, h1, h2, h3⟩ := h
  rw [hLn] at h1
  have hvl : vs.length = n := by have := h1.1; omega
  refine ⟨vs.set i u, by rw [List.length_set, hLn]; exact hs vs h1, ⟨by simp [hvl, hLn], fun j u' C hv hc => ?_⟩, fun j u' hv hl g hg => ?_⟩
  · by_cases hji : i = j
    · subst hji
      rw [List.getElem?_set_self (by omega)] at hv
      rw [List.getElem?_map, List.getElem?_set_self (by omega)] at hc
      simp at hv hc
      subst hv hc
      rw [bs_len]
      exact hu
    · rw [List.getElem?_set_ne hji] at hv
      rw [List.getElem?_map, List.getElem?_set_ne hji, ← List.getElem?_map] at hc
      have hR := h2.2 j u' C hv hc
      refine Rd.chg hR hC (fun x hx h0 => ?_)
      rcases hS x hx with rfl | hge
      · rw [List.getElem?_map] at hc
        cases hLj : L[j]? with
        | none => rw [hLj] at hc; simp at hc
        | some lj =>
          rw [hLj] at hc
          simp at hc
          subst hc
          refine h3 j u' hv ?_ _ rfl
          rw [List.getD_eq_getElem?_getD, hLj]
          simpa [bs] using h0
      · exact Rd.off hR hge h0
  · have hg' : ob = g := by simpa [Value.ownBlock] using hg
    subst hg'
    by_cases hji : i = j
    · subst hji
      rw [List.getElem?_set_self (by omega)] at hv
      rw [List.getD_eq_getElem?_getD, List.getElem?_set_self (by omega)] at hl
      simp at hv hl
      subst hv
      exact hne (by omega)
    · rw [List.getElem?_set_ne hji] at hv
      rw [List.getD_eq_getElem?_getD, List.getElem?_set_ne hji, ← List.getD_eq_getElem?_getD] at hl
      exact h3 j u' hv hl _ rfl
def unitK (d k : Nat) : List (List Int) := (List.range d).map fun i => if i < k then unitR d i else []
/-- The rows by which all parts result from the data parts. -/
def matF (d r : Nat) : List (List Int) := (List.range d).map (unitR d) ++ cauF r d
theorem unitK_zero (d : Nat) : unitK d 0 = List.replicate d [] := by
  unfold unitK
  apply List.ext_getElem (by simp)
  intro i h1 h2
  simp
theorem unitK_len (d k : Nat) : (unitK d k).length = d := by simp [unitK]
theorem unitK_all (d : Nat) : unitK d d = (List.range d).map (unitR d) := by
  unfold unitK
  refine List.map_congr_left fun i hi => ?_
  rw [List.mem_range] at hi
  rw [if_pos hi]
theorem unitK_set (d k : Nat) (hk : k < d) : (unitK d k).set k (unitR d k) = unitK d (k + 1) := by
  apply List.ext_getElem (by simp [unitK])
  intro i h1 h2
  rw [List.getElem_set]
  simp only [unitK, List.getElem_map, List.getElem_range]
  by_cases e : k = i
  · subst e; simp
  · rw [if_neg e]
    by_cases h : i < k
    · rw [if_pos h, if_pos (by omega)]
    · rw [if_neg h, if_neg (by omega)]
theorem OL.celln {w : World} {B ob n cap : Nat} {L : List (List Int)} (h : OL w B (.slice (some ⟨ob, 0, none⟩) n cap) L) {i : Nat} (hi : i < n) : ∃ q, w.cell? ⟨ob, i, none⟩ = some q := by
  obtain ⟨b, off, a, c, e, h1, -⟩ := h.rl.row i hi
  simp only [Option.some.injEq, Addr.mk.injEq, and_true] at e
  obtain ⟨rfl, rfl⟩ := e
  rw [Nat.zero_add] at h1
  exact ⟨_, h1⟩
set_option maxRecDepth 100000 in
set_option maxHeartbeats 1000000 in
theorem matrix_any (d r : Nat) (hd : 1 ≤ d) (hdr : d + r ≤ 64) (w : World) :
    Calls Try.prog 28 #[.int .i64 (d : Int), .int .i64 (r : Int)] w fun e w' => ∃ v, e = .returned v ∧ OL w' w.heap.size v (matF d r) ∧ Ext w w' := by
  have hmr := mk_rows d (d + r) (by omega) (by omega) w
  have hOA := own_rows w d (d + r) (by omega) (by omega)
  have hXA : Ext w (w.alloc (.cells (madeCells #[.slice none 0 0] (d + r)) 22)) := (Ext.refl w).alloc _
  have v0 : IntKind.i64.wrap ((d : Int) + (r : Int)) = ((d + r : Nat) : Int) := by rw [IntWalk.i64_in _ (by omega)]; omega
  have hmk := mk_bytes d (by omega)
  obtain ⟨c, hc⟩ : ∃ c, d + r = c := ⟨_, rfl⟩
  rw [hc] at hmr hOA hXA v0
  go_enter Try.func28, Try.ntmps28
  go_upto_region 3 with fail
  obtain ⟨q, hq⟩ : ∃ q, w.heap.size = q := ⟨_, rfl⟩
  obtain ⟨wA, hwA⟩ : ∃ W, w.alloc (.cells (madeCells #[.slice none 0 0] c) 22) = W := ⟨_, rfl⟩
  rw [hwA] at hOA hXA ⊢
  rw [hq] at hOA ⊢
  rw [← unitK_zero] at hOA
  clear hwA hmr v0
  replace hOA := hidden hOA
  replace hXA := hidden hXA
  replace hmk := hidden hmk
  go_loopw [16] (fun i wr => ∃ k : Nat, i = .int .i64 (k : Int) ∧ k ≤ d ∧ Hid (OL wr q (.slice (some ⟨q, 0, none⟩) d c) (unitK d k)) ∧ Hid (Ext w wr)) (fun i _ => d - (intOf i).toNat)
  case atStart => exact ⟨0, rfl, by omega, hOA, hXA⟩
  case round =>
    clear hOA hXA
    obtain ⟨k, rfl, hk, hO, hX⟩ := hrel
    have v1 : IntKind.i64.wrap ((k : Int) + 1) = (k : Int) + 1 := IntWalk.i64_in _ (by omega)
    obtain ⟨w3, hWW⟩ : ∃ X, X = wr := ⟨_, rfl⟩
    subst hWW
    by_cases hlt : k < d
    · have hlt2 : (k : Int) < (d : Int) := by omega
      have hmk3 := hmk.out w3
      have hO3 := hO.out
      have hqx := (hO3.lt (g := q) rfl).2
      obtain ⟨x, hx⟩ : ∃ x, w3.heap.size = x := ⟨_, rfl⟩
      have hoA : Own8 (w3.alloc (.cells (madeCells #[.int .u8 0] d) 5)) w3.heap.size (.slice (some ⟨w3.heap.size, 0, none⟩) d d) (List.replicate d 0) := own_bytes w3 d (by omega)
      rw [hx] at hoA hqx
      have hXB : Ext w3 (w3.alloc (.cells (madeCells #[.int .u8 0] d) 5)) := (Ext.refl w3).alloc _
      obtain ⟨y, hy⟩ := hO3.celln hlt
      have hy2 := hXB.cell hy
      have fz : (w3.alloc (.cells (madeCells #[.int .u8 0] d) 5)).frozen? ⟨q, k, none⟩ = false := by
        obtain ⟨vs, hv⟩ := (hO3.ext hXB).vals
        rw [unitK_len] at hv
        exact World.ownsRow.frozenAt hv k
      have hsz : (w3.setCell ⟨q, k, none⟩ (.slice (some ⟨x, 0, none⟩) d d)).heap.size = x := by rw [← hx]; simp [World.setCell]
      have hoC : Own8 ((w3.setCell ⟨q, k, none⟩ (.slice (some ⟨x, 0, none⟩) d d)).alloc (.cells (madeCells #[.int .u8 0] d) 5)) x (.slice (some ⟨x, 0, none⟩) d d) (List.replicate d 0) := by
        have := own_bytes (w3.setCell ⟨q, k, none⟩ (.slice (some ⟨x, 0, none⟩) d d)) d (by omega)
        rw [hsz] at this
        exact this
      have cC : ((w3.setCell ⟨q, k, none⟩ (.slice (some ⟨x, 0, none⟩) d d)).alloc (.cells (madeCells #[.int .u8 0] d) 5)).cell? ⟨q, k, none⟩ = some (.slice (some ⟨x, 0, none⟩) d d) := by
        obtain ⟨vs, hv⟩ := hO3.vals
        rw [unitK_len] at hv
        have h1 := (World.ownsRow.stored hv k (.slice (some ⟨x, 0, none⟩) d d)).1
        have hvl : vs.length = d := by have := hv.1; omega
        have := h1.cells (g := q) rfl k _ (List.getElem?_set_self (by omega))
        rw [show (⟨q, 0, none⟩ : Addr).add k = ⟨q, k, none⟩ from by unfold Addr.add; split <;> simp_all] at this
        exact ((Ext.refl _).alloc _).cell this
      have hCC : Chg [q] w3 ((w3.setCell ⟨q, k, none⟩ (.slice (some ⟨x, 0, none⟩) d d)).alloc (.cells (madeCells #[.int .u8 0] d) 5)) := ((Chg.refl [q] w3).setCell (Or.inl (by simp)) _).alloc _
      have hsC : ∀ vs, w3.ownsRow q 22 1 (.slice (some ⟨q, 0, none⟩) d c) d vs → ((w3.setCell ⟨q, k, none⟩ (.slice (some ⟨x, 0, none⟩) d d)).alloc (.cells (madeCells #[.int .u8 0] d) 5)).ownsRow q 22 1 (.slice (some ⟨q, 0, none⟩) d c) d (vs.set k (.slice (some ⟨x, 0, none⟩) d d)) := fun vs hv => own_ext (World.ownsRow.stored hv k _).1 ((Ext.refl _).alloc _)
      replace hO3 := hidden hO3
      replace hoC := hidden hoC
      replace hCC := hidden hCC
      replace hsC := hidden hsC
      clear hoA hXB hy hO hsz
      go_upto_region 6 with fail
      obtain ⟨wC, hwC⟩ : ∃ W, ((w3.setCell ⟨q, k, none⟩ (.slice (some ⟨x, 0, none⟩) d d)).alloc (.cells (madeCells #[.int .u8 0] d) 5)) = W := ⟨_, rfl⟩
      rw [hwC] at hoC cC hCC hsC ⊢
      clear hwC hy2 fz hmk3
      have hoC2 : Own8 wC x (.slice (some ⟨x, 0, none⟩) d d) (List.replicate d 0) := hoC.out
      have fx := hoC2.frozen k
      have cx := hoC2.rd.at k (by simp; exact hlt)
      rw [Nat.zero_add] at cx
      have hoD := unit_own hoC2 k
      have hCD : Chg [q] w3 (wC.setCell ⟨x, k, none⟩ (.int .u8 1)) := hCC.out.setCell (Or.inr (by rw [hx]; exact Nat.le_refl _)) _
      have hfin : Hid (OL (wC.setCell ⟨x, k, none⟩ (.int .u8 1)) q (.slice (some ⟨q, 0, none⟩) d c) (unitK d (k + 1)) ∧ Ext w (wC.setCell ⟨x, k, none⟩ (.int .u8 1))) := hidden ⟨by
        rw [← unitK_set d k hlt]
        refine hO3.out.put hlt hoD.rd (fun _ => by simp [Value.ownBlock]; omega) (fun vs hv => ?_) hCD (fun y hy => Or.inl (by simpa using hy))
        exact ownsRow_setCell_other (hsC.out vs hv) (a := ⟨x, k, none⟩) (by simp [Value.ownBlock]; omega) _, Chg.ext ((Chg.of_ext [] hX.out).trans hCD (fun y hy => Or.inr (by simp at hy; omega)))⟩
      clear hoD hCD hoC2 hoC hsC hCC hO3
      go_wp2_with fail
      go_roundw
      case rel => exact ⟨k + 1, by go_num, by omega, hidden hfin.out.1, hidden hfin.out.2⟩
      case measure => simp [intOf]; omega
    · have hke : k = d := by omega
      have hO2 := hO.out
      rw [hke, unitK_all] at hO2
      have hk8 : decide ((k : Int) < (d : Int)) = false := decide_eq_false (by omega)
      replace hO2 := hidden hO2
      clear hO
      by_cases hr0 : 0 < r
      · have hr1 : (0 : Int) < (r : Int) := by omega
        have hca := cauchyF_any r d (by omega) hd (by omega) w3
        replace hca := hidden hca
        go_wp2_with fail
        refine hca.out.mono ?_
        rintro e w4 ⟨v4, rfl, hC, hX4⟩
        obtain ⟨a4, c4, hv4, -, -⟩ := hC.ol.shape
        rw [cauF_len] at hv4
        subst hv4
        have hO4 := hO2.out.ext hX4
        have hq3 := (hO2.out.lt (g := q) rfl).2
        have hul : ((List.range d).map (unitR d)).length = d := by simp
        have hcl : (cauF r d).length = r := cauF_len r d
        have hbz : q ≤ w4.heap.size := by have := hX4.size; omega
        obtain ⟨C, hCe⟩ : ∃ C, cauF r d = C := ⟨_, rfl⟩
        obtain ⟨U, hUe⟩ : ∃ U, (List.range d).map (unitR d) = U := ⟨_, rfl⟩
        have hmat : matF d r = U ++ C := by unfold matF; rw [hCe, hUe]
        rw [hCe] at hC hcl
        rw [hUe] at hO4 hul
        have hX5 : Hid (Ext w w4) := hidden (hX.out.trans hX4)
        replace hO4 := hidden hO4
        replace hC := hidden hC
        replace hmat := hidden hmat
        clear hO2 hca hX4 hCe hUe
        go_wp2_with (at_builtin; refine wpList_append_rows rfl _ _ rfl q w3.heap.size (.slice (some ⟨q, 0, none⟩) d c) U rfl hO4.out (.slice a4 r c4) C rfl hC.out (fun g hg => by simp [Value.ownBlock] at hg; omega) (by omega) hbz ?_; intro v6 w6 hown hgrow hat)
        go_ret
        refine ⟨_, rfl, ?_, Chg.ext ((Chg.of_ext [] hX5.out).grown hgrow (fun y hy => Or.inr (by simp [Value.ownBlock] at hy; omega)))⟩
        rw [hq, hmat.out]
        exact hown
      · obtain rfl : r = 0 := by omega
        go_wp2_with fail
        go_ret
        refine ⟨_, rfl, ?_, hX.out⟩
        rw [hq]
        have : matF d 0 = (List.range d).map (unitR d) := by unfold matF cauF; simp
        rw [this]
        exact hO2.out
end Go.Proofs.Ytpfelklhejpnnaa

/- parity.combiner and its closure: a row's combination of parts. -/
namespace Go.Proofs.Ytpfelklhejpnnaa
open Go.RowKit
set_option linter.unusedVariables false
set_option linter.unusedSimpArgs false
attribute [local go_sem ↓] Go.wp_at_zero Go.wp_at_succ

/-- The combination of the parts by the first factors of a row. -/
def combK (row : List Int) (P : List (List Int)) (s : Nat) : Nat → List Int
  | 0 => List.replicate s 0
  | k + 1 => mixF (row.getD k 0).toNat (combK row P s k) (P.getD k [])
def combF (row : List Int) (P : List (List Int)) (s : Nat) : List Int := combK row P s row.length
theorem combK_len (row : List Int) (P : List (List Int)) (s : Nat) : ∀ k, (combK row P s k).length = s
  | 0 => by simp [combK]
  | k + 1 => by rw [combK, mixF_len, combK_len row P s k]
theorem combK_bytes {row : List Int} {P : List (List Int)} {s : Nat} (hP : ∀ l ∈ P, Bytes l) : ∀ k, k ≤ P.length → Bytes (combK row P s k)
  | 0, _ => by intro x hx; simp [combK] at hx; omega
  | k + 1, h => by
    rw [combK]
    refine mixF_bytes _ (combK_bytes hP k (by omega)) (hP _ ?_)
    rw [List.getD_eq_getElem?_getD, List.getElem?_eq_getElem (show k < P.length by omega)]
    exact List.getElem_mem _

set_option maxRecDepth 100000 in
set_option maxHeartbeats 2000000 in
theorem comb1_any (x s : Nat) (hs : s ≤ 1000) (vP : Value) (P : List (List Int)) (hP0 : 0 < P.length) (hP1 : P.length ≤ 1000) (hPw : Wide P s) (hPb : ∀ l ∈ P, Bytes l) (vr : Value) (row : List Int) (hrl : row.length ≤ P.length) (hrb : Bytes row) (w : World)
    (hcx : w.cell? ⟨x, 0, none⟩ = some vP) (hRP : RL w vP P) (hRr : Rd8 w vr row) :
    Calls Try.prog 40 #[vr, .pointer (some ⟨x, 0, none⟩)] w fun e w' => ∃ v', e = .returned v' ∧ Own8 w' w.heap.size v' (combF row P s) ∧ Ext w w' := by
  obtain ⟨ar, cr, rfl⟩ := rd8_one hRr
  obtain ⟨ap, cap, rfl, q1, q2⟩ := hRP.shape
  obtain ⟨b, off, a0, c0, rfl, cB, -⟩ := hRP.row 0 hP0
  rw [hPw.at hP0, Nat.add_zero] at cB
  obtain ⟨n, hn⟩ : ∃ n, row.length = n := ⟨_, rfl⟩
  obtain ⟨d, hd⟩ : ∃ n, P.length = n := ⟨_, rfl⟩
  rw [hd] at hP0 hP1 hrl hcx hRP q1
  rw [hn] at hrl hRr ⊢
  have hmk := mk_bytes s (by omega) w
  have hoA : Own8 (w.alloc (.cells (madeCells #[.int .u8 0] s) 5)) w.heap.size (.slice (some ⟨w.heap.size, 0, none⟩) s s) (List.replicate s 0) := own_bytes w s (by omega)
  have hXA : Ext w (w.alloc (.cells (madeCells #[.int .u8 0] s) 5)) := (Ext.refl w).alloc _
  have hP02 : (0 : Int) < (d : Int) := by omega
  replace hRP := hidden hRP
  replace hRr := hidden hRr
  replace hPw := hidden hPw
  replace hPb := hidden hPb
  replace hrb := hidden hrb
  go_enter Try.func40, Try.ntmps40
  go_upto_region 3 with fail
  obtain ⟨q, hq⟩ : ∃ q, w.heap.size = q := ⟨_, rfl⟩
  obtain ⟨wA, hwA⟩ : ∃ W, w.alloc (.cells (madeCells #[.int .u8 0] s) 5) = W := ⟨_, rfl⟩
  rw [hwA] at hoA hXA ⊢
  rw [hq] at hoA ⊢
  clear hwA hmk
  replace hoA := hidden hoA
  replace hXA := hidden hXA
  go_loopw [16] (fun i wr => ∃ k : Nat, i = .int .i64 (k : Int) ∧ k ≤ n ∧ Hid (Own8 wr q (.slice (some ⟨q, 0, none⟩) s s) (combK row P s k)) ∧ Hid (Ext w wr)) (fun i _ => n - (intOf i).toNat)
  case atStart => exact ⟨0, rfl, by omega, hoA, hXA⟩
  case round =>
    clear hoA hXA
    obtain ⟨k, rfl, hk, hO, hX⟩ := hrel
    have v1 : IntKind.i64.wrap ((k : Int) + 1) = (k : Int) + 1 := IntWalk.i64_in _ (by omega)
    obtain ⟨w3, hWW⟩ : ∃ X, X = wr := ⟨_, rfl⟩
    subst hWW
    by_cases hlt : k < n
    · have hlt2 : (k : Int) < (n : Int) := by omega
      have hlt3 : (k : Int) < (d : Int) := by omega
      obtain ⟨br, orr, rfl, -⟩ := hRr.out.some (by omega)
      have cf := hX.out.cell (hRr.out.at k (by omega))
      have cx3 := hX.out.cell hcx
      obtain ⟨b', off', a1, c1, e, cR0, hrd⟩ := hRP.out.row k (by omega)
      have cR := hX.out.cell cR0
      simp only [Option.some.injEq, Addr.mk.injEq, and_true] at e
      obtain ⟨rfl, rfl⟩ := e
      have hrw := hPw.out.at (show k < P.length by omega)
      have hFb : Bytes (P.getD k []) := hPb.out _ (by rw [List.getD_eq_getElem?_getD, List.getElem?_eq_getElem (show k < P.length by omega)]; exact List.getElem_mem _)
      have hTb := combK_bytes (row := row) (s := s) hPb.out k (by omega)
      have hTl := combK_len row P s k
      have hst1 : combK row P s (k + 1) = mixF (row.getD k 0).toNat (combK row P s k) (P.getD k []) := rfl
      obtain ⟨f, hf, hfl⟩ : ∃ x : Nat, row.getD k 0 = (x : Int) ∧ x < 256 := ⟨(row.getD k 0).toNat, by have := hrb.out.get k (by omega); omega, by have := hrb.out.get k (by omega); omega⟩
      rw [hf, Int.toNat_natCast] at hst1
      rw [hf] at cf
      obtain ⟨F, hF⟩ : ∃ F, P.getD k [] = F := ⟨_, rfl⟩
      rw [hF] at cR hrd hrw hFb hst1
      rw [hrw] at cR hrd
      clear cR0
      obtain ⟨T, hT⟩ : ∃ T, combK row P s k = T := ⟨_, rfl⟩
      rw [hT] at hO hTb hTl hst1
      replace hst1 := hidden hst1
      replace hrd := hidden hrd
      replace hTb := hidden hTb
      replace hFb := hidden hFb
      clear hf hF hT
      go_upto_region 6 with fail
      go_loopw [26] (fun i wr => ∃ j : Nat, i = .int .i64 (j : Int) ∧ j ≤ s ∧ Hid (Own8 wr q (.slice (some ⟨q, 0, none⟩) s s) (mixK f T F j)) ∧ Hid (Ext w wr)) (fun i _ => s - (intOf i).toNat)
      case atStart => exact ⟨0, rfl, by omega, hidden (by rw [mixK_zero]; exact hO.out), hX⟩
      case round =>
        obtain ⟨j, rfl, hj, hO1, hX1⟩ := hrel
        have v9 : IntKind.i64.wrap ((j : Int) + 1) = (j : Int) + 1 := IntWalk.i64_in _ (by omega)
        obtain ⟨w4, hWW⟩ : ∃ X, X = wr := ⟨_, rfl⟩
        subst hWW
        by_cases hjs : j < s
        · have hjs2 : (j : Int) < (s : Int) := by omega
          obtain ⟨bF, oF, rfl, -⟩ := hrd.out.some (by omega)
          have cF0 := hX1.out.cell (hrd.out.at j (by omega))
          have ct0 := hO1.out.rd.at j (by rw [mixK_len]; omega)
          rw [mixK_get f T F j (by omega), Nat.zero_add] at ct0
          have hfr := hO1.out.frozen j
          have hst := mixK_set f T F j (by omega)
          obtain ⟨z, hz, hzl⟩ : ∃ x : Nat, F.getD j 0 = (x : Int) ∧ x < 256 := ⟨(F.getD j 0).toNat, by have := hFb.out.get j (by omega); omega, by have := hFb.out.get j (by omega); omega⟩
          obtain ⟨y, hy, hyl⟩ : ∃ x : Nat, T.getD j 0 = (x : Int) ∧ x < 256 := ⟨(T.getD j 0).toNat, by have := hTb.out.get j (by omega); omega, by have := hTb.out.get j (by omega); omega⟩
          unfold mixB at hst
          rw [hz, hy, Int.toNat_natCast, Int.toNat_natCast] at hst
          rw [hz] at cF0
          rw [hy] at ct0
          have hcl := fun W => gmul_any f z hfl hzl W
          have hml := Gf.mul_lt f z
          obtain ⟨m, hm⟩ : ∃ m, Gf.mul f z = m := ⟨_, rfl⟩
          rw [hm] at hst hml
          simp only [hm] at hcl
          have v2 : bits .xor .u8 (y : Int) (m : Int) = ((y ^^^ m : Nat) : Int) := bits_xor8 y m hyl hml
          obtain ⟨t, ht⟩ : ∃ t, y ^^^ m = t := ⟨_, rfl⟩
          rw [ht] at v2 hst
          have hfin : Hid (∀ w5, Ext w4 w5 → Own8 (w5.setCell ⟨q, j, none⟩ (.int .u8 (t : Int))) q (.slice (some ⟨q, 0, none⟩) s s) (mixK f T F (j + 1)) ∧ Ext w (w5.setCell ⟨q, j, none⟩ (.int .u8 (t : Int)))) := hidden (fun w5 h5 => by
            refine ⟨?_, Chg.ext ((Chg.of_ext [] (hX1.out.trans h5)).setCell (Or.inr (by rw [hq]; exact Nat.le_refl _)) _)⟩
            rw [← hst]
            exact Own8.set (own_ext hO1.out h5) j _)
          have hcl2 : Hid (∀ W, Ext w4 W → Calls Try.prog 41 #[.int .u8 (f : Int), .int .u8 (z : Int)] W fun e w' => e = .returned (.int .u8 (m : Int)) ∧ w'.cell? ⟨q, j, none⟩ = some (.int .u8 (y : Int)) ∧ w'.frozen? ⟨q, j, none⟩ = false ∧ Ext w4 w') := hidden (fun W hW => (hcl W).mono (by rintro e w' ⟨e1, e2⟩; exact ⟨e1, (hW.trans e2).cell ct0, (hW.trans e2).frozen ct0 hfr, hW.trans e2⟩))
          clear hst hcl hm ht hz hy
          go_upto_region 8 with fail
          go_region_with (go_at_call 41; refine (hcl2.out _ (Ext.refl w4).drew).mono ?_; rintro e w5 ⟨rfl, k1, k2, hX5⟩)
          all_goals
            obtain ⟨g1, g2⟩ := hfin.out w5 hX5
            replace g1 := hidden g1
            replace g2 := hidden g2
            obtain ⟨w6, hw6⟩ : ∃ W, w5.setCell ⟨q, j, none⟩ (.int .u8 (t : Int)) = W := ⟨_, rfl⟩
            rw [hw6] at g1 g2 ⊢
            clear hw6 hcl2 hfin k1 k2 hX5
            go_wp2_with fail
            exact ⟨⟨j + 1, by go_num, by omega, g1, g2⟩, by simp [intOf]; omega⟩
        · have hje : j = s := by omega
          have hO2 := hO1.out
          rw [mixK_all f T F j (by omega), ← hst1.out] at hO2
          have hk9 : decide ((j : Int) < (s : Int)) = false := decide_eq_false (by omega)
          replace hO2 := hidden hO2
          clear hO1 hO
          go_wp2_with fail
          go_roundw
          case rel => exact ⟨k + 1, by go_num, by omega, hO2, hX1⟩
          case measure => simp [intOf]; omega
    · have hke : k = n := by omega
      have hO2 := hO.out
      have hk8 : decide ((k : Int) < (n : Int)) = false := decide_eq_false (by omega)
      replace hO2 := hidden hO2
      clear hO
      go_wp2_with fail
      go_ret
      exact ⟨_, rfl, by unfold combF; rw [hn, ← hke, hq]; exact hO2.out, hX.out⟩
theorem combiner_any (v : Value) (a : Option Addr) (n c : Nat) (hv : v = .slice a n c) (w : World) :
    Calls Try.prog 27 #[v] w fun e w' => e = .returned (.func (.func 40) #[] #[.pointer (some ⟨w.heap.size, 0, none⟩)]) ∧ w' = w.alloc (.cells #[v] 26) := by
  subst hv
  go_enter Try.func27, Try.ntmps27
  go_wp2_with fail
  go_ret
  exact ⟨rfl, rfl⟩
theorem present_any (v : Value) (a : Option Addr) (n c : Nat) (hv : v = .slice a n c) (w : World) :
    Calls Try.prog 53 #[v] w fun e w' => e = .returned (.func (.func 70) #[] #[.pointer (some ⟨w.heap.size, 0, none⟩)]) ∧ w' = w.alloc (.cells #[v] 26) := by
  subst hv
  go_enter Try.func53, Try.ntmps53
  go_wp2_with fail
  go_ret
  exact ⟨rfl, rfl⟩
end Go.Proofs.Ytpfelklhejpnnaa

/- parity.Recovery. -/
namespace Go.Proofs.Ytpfelklhejpnnaa
open Go.RowKit
set_option linter.unusedVariables false
set_option linter.unusedSimpArgs false
attribute [local go_sem ↓] Go.wp_at_zero Go.wp_at_succ

/-- One byte string is appended that a slice of one holds, made just before. -/
theorem wpList_append_fresh {ops : Array Oper} {rest : List Oper} {o : Oper} {a : Act} {Q : Exit → Act → World → Prop} (hgd : o.guard = none) (s x : Operand)
    (ho : o.op = .call { callee := .builtin .append, args := #[s, x], argTypes := #[26, 26] })
    (w0 w6 w7 : World) (u : Value) (L : List (List Int)) (hs : a.eval s = u) (hO : OL w6 w0.heap.size u L) (h06 : Ext w0 w6) (h67 : Ext w6 w7) (ua : Option Addr) (n uc : Nat) (D : List Int) (hD : Rd8 w7 (.slice ua n uc) D)
    (hne : 0 < D.length → ∀ g, u.ownBlock = some g → (Value.slice ua n uc).ownBlock ≠ some g) (hx : a.eval x = .slice (some ⟨w7.heap.size, 0, none⟩) 1 1) (hL : L.length ≤ 1000000)
    (h : ∀ v' w', OL w' w0.heap.size v' (L ++ [D]) → Ext w0 w' → wpList Try.prog ops Q rest (a.put o.dst v') w') :
    wpList Try.prog ops Q (o :: rest) a (w7.alloc (.cells #[.slice ua n uc] 22)) := by
  have hrd : Rd (w7.alloc (.cells #[.slice ua n uc] 22)) 1 (.slice (some ⟨w7.heap.size, 0, none⟩) 1 1) 1 [.slice ua n uc] := rd_of_blkS (Blk.new w7 [.slice ua n uc] 22) rfl (by omega)
  have hX : Ext w0 (w7.alloc (.cells #[.slice ua n uc] 22)) := h06.trans (h67.alloc _)
  refine wpList_append_row hgd s x ho w0.heap.size u L hs (hO.ext (h67.alloc _)) (.slice ua n uc) D (hD.ext ((Ext.refl w7).alloc _)) hne (some ⟨w7.heap.size, 0, none⟩) 1 hx hrd hL hX.size ?_
  intro v' w' hown hgrow hat
  exact h v' w' hown (Chg.ext ((Chg.of_ext [] hX).grown hgrow (fun y hy => Or.inr (hO.lt hy).1)))
theorem OL.ne {w6 w7 : World} {B : Nat} {u v : Value} {L : List (List Int)} {D : List Int} (hO : OL w6 B u L) (hD : Own8 w7 w6.heap.size v D) : 0 < D.length → ∀ g, u.ownBlock = some g → v.ownBlock ≠ some g := fun _ x hx hx2 => by
  have k1 := (hO.lt hx).2
  have k2 := (own_lt hD hx2).1
  omega
theorem any_false {p : List Int → Bool} {L : List (List Int)} (h : ∀ k, k < L.length → p (L.getD k []) = false) : L.any p = false := by
  rw [List.any_eq_false]
  intro x hx
  obtain ⟨j, hj, rfl⟩ := List.mem_iff_getElem.1 hx
  have := h j hj
  rw [List.getD_eq_getElem?_getD, List.getElem?_eq_getElem hj] at this
  simpa using this
theorem recrow_wide (d r : Nat) : Wide ((matF d r).drop d) d := by
  intro l hl
  have : (matF d r).drop d = cauF r d := by unfold matF; rw [List.drop_left' (by simp)]
  rw [this] at hl
  unfold cauF at hl
  obtain ⟨i, -, rfl⟩ := List.mem_map.1 hl
  exact cauR_len r d i

def recF (P : List (List Int)) (r s : Nat) : List (List Int) := ((matF P.length r).drop P.length).map fun row => combF row P s
end Go.Proofs.Ytpfelklhejpnnaa
