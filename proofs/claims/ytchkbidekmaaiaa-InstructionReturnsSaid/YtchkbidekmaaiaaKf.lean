/- The reference of layer 15: arrays, code. -/
import Derived.Test.YtchkbidekmaaiaaJs
import Derived.Test.YtchkbidekmaaiaaKb
import Derived.Test.YtchkbidekmaaiaaKc
namespace Go.Proofs.Ytchkbidekmaaiaa
open Go.RowKit
set_option linter.unusedVariables false
attribute [local go_sem ↓] Go.wp_at_zero Go.wp_at_succ

/-- What the reference reads: the error, the arrays, the rest. -/
def arrR : Nat → List Int → Int × List (Bool × Int) × List Int
  | 0, S => (0, [], S)
  | k + 1, S =>
    if (arrR k S).1 ≠ 0 then arrR k S else
    if (wrd (arrR k S).2.2).1 ≠ 0 then ((wrd (arrR k S).2.2).1, [], []) else (0, (arrR k S).2.1 ++ [((wrd (arrR k S).2.2).2.1 % 2 == 1, (wrd (arrR k S).2.2).2.1 / 2)], (wrd (arrR k S).2.2).2.2)
def arraysR (S : List Int) : Int × List (Bool × Int) × List Int :=
  if (wrd S).1 ≠ 0 then ((wrd S).1, [], []) else if 8 < (wrd S).2.1 then (6, [], []) else arrR (wrd S).2.1.toNat (wrd S).2.2
theorem arrR_stuck (k : Nat) (S : List Int) (h : (arrR k S).1 ≠ 0) : ∀ j, k ≤ j → arrR j S = arrR k S := by
  intro j
  induction j with
  | zero => intro hj; have h0 : k = 0 := (by omega); rw [h0]
  | succ j ih =>
    intro hj
    by_cases he : k = j + 1
    · rw [he]
    · have := ih (by omega)
      show (if (arrR j S).1 ≠ 0 then arrR j S else _) = _
      rw [this, if_pos h]
theorem arrR_len (k : Nat) (S : List Int) : (arrR k S).1 = 0 → (arrR k S).2.1.length = k := by
  induction k with
  | zero => intro _; rfl
  | succ k ih =>
    intro h
    unfold arrR at h ⊢
    by_cases h1 : (arrR k S).1 ≠ 0
    · rw [if_pos h1] at h; exact absurd h h1
    · rw [if_neg h1] at h ⊢
      by_cases h2 : (wrd (arrR k S).2.2).1 ≠ 0
      · rw [if_pos h2] at h; exact absurd h h2
      · rw [if_neg h2]
        simp only [List.length_append, List.length_singleton]
        rw [ih (Decidable.not_not.1 h1)]
theorem arrR_sub (k : Nat) (S : List Int) : Sub S (arrR k S).2.2 := by
  induction k with
  | zero => exact Sub.refl S
  | succ k ih =>
    unfold arrR
    split
    · exact ih
    · split
      · exact ⟨S.length, by simp⟩
      · exact ih.trans (wrd_sub _)
theorem arrR_err (k : Nat) (S : List Int) (h : (arrR k S).1 ≠ 0) : (arrR k S).2 = ([], []) := by
  induction k with
  | zero => exact absurd rfl h
  | succ k ih =>
    unfold arrR at h ⊢
    by_cases h1 : (arrR k S).1 ≠ 0
    · rw [if_pos h1]; exact ih h1
    · rw [if_neg h1] at h ⊢
      by_cases h2 : (wrd (arrR k S).2.2).1 ≠ 0
      · rw [if_pos h2]
      · rw [if_neg h2] at h; exact absurd rfl h
def ArrPost (w : World) (r : Int × List (Bool × Int) × List Int) (x : Ending) (w' : World) : Prop :=
  ∃ vA v, x = .returned (.tuple #[vA, v, .int .i64 r.1]) ∧ w'.ownsRow w.heap.size 72 2 vA r.2.1.length (r.2.1.flatMap cA) ∧ Rd8 w' v r.2.2 ∧ Ext w w'
theorem arrInfo2 : (Try.prog.info? 72).map (fun i => (i.zero, i.size, i.bytes)) = some (some (.agg #[.bool false, .int .i64 0]), 2, 16) := by kernel_rfl
theorem insInfo2 : (Try.prog.info? 53).map (fun i => (i.zero, i.size, i.bytes)) = some (some (.agg #[.int .i64 0, .int .u32 0]), 2, 16) := by kernel_rfl

set_option maxHeartbeats 4000000 in
set_option maxRecDepth 100000 in
theorem rarrays_any (v : Value) (S : List Int) (hb : Bytes S) (hS : S.length ≤ 900000) (w : World) (hR : Rd8 w v S) :
    Calls Try.prog 42 #[v] w (ArrPost w (arraysR S)) := by
  obtain ⟨iA, hiA, hzA0, hzA1, hzA2⟩ := info_parts arrInfo2
  have hint := rint_any v S hb hS w hR
  have hri := rint_any
  obtain ⟨T, hT⟩ : ∃ T, wrd S = T := ⟨_, rfl⟩
  have hN : Hid (arraysR S = if T.1 ≠ 0 then (T.1, [], []) else if 8 < T.2.1 then (6, [], []) else arrR T.2.1.toNat T.2.2) := by show _ = _; unfold arraysR; rw [hT]
  have hT0 := wrd_num S hb
  have hsub := wrd_sub S
  rw [hT] at hint hT0 hsub
  obtain ⟨t0, t1, t2⟩ := T
  simp only at hN hT0 hsub
  have hb2 : Hid (Bytes t2) := Sub.bytes hsub hb
  have hl2 : t2.length ≤ 900000 := Nat.le_trans (Sub.len hsub) hS
  replace hri := hidden hri
  replace hT0 := hidden hT0
  have hnil := hidden (fun w' => World.ownsRow_nil w' w.heap.size 72 2)
  clear hT hR hsub hb
  go_enter Try.func42, Try.ntmps42
  go_wp2_with fail
  refine hint.mono ?_
  rintro e w1 ⟨v1, rfl, hO1, g1⟩
  by_cases h0 : t0 = 0
  · subst h0
    obtain ⟨n0, n1⟩ := hT0.out rfl
    by_cases hm : 8 < t1
    · have hN2 : Hid (arraysR S = (6, [], [])) := by show _ = _; rw [hN.out, if_neg (by simp), if_pos hm]
      go_wp2_with fail
      go_ret3
      show ArrPost w (arraysR S) _ _
      rw [hN2.out]
      exact ⟨_, _, rfl, hnil.out _, Rd8.nil _, g1⟩
    · obtain ⟨c, rfl⟩ := Int.eq_ofNat_of_zero_le n0
      have hN2 : Hid (arraysR S = arrR c t2) := by show _ = _; rw [hN.out, if_neg (by simp), if_neg hm, Int.toNat_natCast]
      have R1 := hO1.rd
      replace R1 := hidden R1
      go_wp2_with fail
      go_loopw [0, 7, 8] (fun b o i wr => ∃ (k : Nat), k ≤ c ∧ i = .int .i64 (k : Int) ∧ Hid ((arrR k t2).1 = 0) ∧ Hid (Rd8 wr b (arrR k t2).2.2) ∧ Hid (wr.ownsRow w.heap.size 72 2 o (arrR k t2).2.1.length ((arrR k t2).2.1.flatMap cA)) ∧ Ext w wr) (fun _ _ i _ => c - (intOf i).toNat)
      case atStart => exact ⟨0, by omega, rfl, rfl, R1, hnil.out _, g1⟩
      case round =>
        obtain ⟨k, hk, rfl, hz, hRk, hOk, X⟩ := hrel
        have hlk := arrR_len k t2 hz.out
        have husk := arrR_sub k t2
        have hnx : Hid (arrR (k + 1) t2 = if (wrd (arrR k t2).2.2).1 ≠ 0 then ((wrd (arrR k t2).2.2).1, [], []) else (0, (arrR k t2).2.1 ++ [((wrd (arrR k t2).2.2).2.1 % 2 == 1, (wrd (arrR k t2).2.2).2.1 / 2)], (wrd (arrR k t2).2.2).2.2)) := by
          show (if (arrR k t2).1 ≠ 0 then arrR k t2 else _) = _
          rw [if_neg (by simp [hz.out])]
        have hstk := arrR_stuck (k + 1) t2
        obtain ⟨T, hT⟩ : ∃ T, arrR k t2 = T := ⟨_, rfl⟩
        rw [hT] at hlk husk hnx hRk hOk hz
        have hTk := hidden hT
        obtain ⟨ee, Ak, Sk⟩ := T
        simp only at hlk husk hnx hRk hOk hz
        have hz' : Hid (ee = 0) := hz
        have hbk : Hid (Bytes Sk) := husk.bytes hb2.out
        have hslk : Sk.length ≤ 900000 := Nat.le_trans husk.len hl2
        have hal : Ak.length ≤ k := by omega
        replace hlk := hidden hlk
        replace hstk := hidden hstk
        clear hT husk hz
        by_cases hlt : k < c
        · have hcall := hri.out _ Sk hbk.out hslk _ hRk.out
          have hT1 := wrd_num Sk hbk.out
          obtain ⟨N, hNe⟩ : ∃ N, wrd Sk = N := ⟨_, rfl⟩
          rw [hNe] at hcall hnx hT1
          obtain ⟨q0, y, r⟩ := N
          simp only at hnx hT1
          replace hcall := hidden hcall
          replace hT1 := hidden hT1
          clear hNe
          have hs := X.size
          go_wp2_with fail
          refine hcall.out.mono ?_
          rintro e w2 ⟨v2, rfl, hO2, g2⟩
          have X2 := X.trans g2
          have hs2 := X2.size
          by_cases hq : q0 = 0
          · subst hq
            obtain ⟨y0, y1⟩ := hT1.out rfl
            have hnx2 : Hid (arrR (k + 1) t2 = (0, Ak ++ [(y % 2 == 1, y / 2)], r)) := by show _ = _; rw [hnx.out, if_neg (by simp)]
            have oA2 := own_ext hOk.out g2
            obtain ⟨aA, cA1, rfl, q1, q2, q3⟩ := own_shape oA2
            replace oA2 := hidden oA2
            have hav : Hid (∀ g, g < w2.heap.size → (Value.slice aA Ak.length cA1).ownBlock = some g → v2.ownBlock ≠ some g) := fun g hg hv hv2 => by
              have h1 := (own_lt hO2 hv2).1
              have h2 := (own_lt hOk.out hv).2
              omega
            have hO2' := hidden hO2
            clear hO2
            go_wp2_with (at_builtin; refine wpList_append_own_at _ rfl _ _ 30 rfl w.heap.size 72 iA (.agg #[.bool false, .int .i64 0]) 2 16 Try.underlying30 hiA hzA0 hzA1 hzA2 rfl (by decide) (.slice aA Ak.length cA1) Ak.length (Ak.flatMap cA) rfl (World.ownsRow.alloc oA2.out _) ⟨w2.heap.size, 0, none⟩ 1 1 [.bool (y % 2 == 1), .int .i64 (y / 2)] rfl rfl (World.news_of_block (cs := #[.bool (y % 2 == 1), .int .i64 (y / 2)]) (t := 72) (fr := (0, 0)) (heap_alloc_new w2 _)) (by simp [Value.oneCell']) (by unfold maxLen; omega) (by omega) (by simp; omega) ?_; intro v3 w3 hown3 hgrow3 _ hb3)
            have C3 : Chg (Value.slice aA Ak.length cA1).ownBlock.toList (w2.alloc (.cells #[.bool (y % 2 == 1), .int .i64 (y / 2)] 72)) w3 := (Chg.refl _ _).grown hgrow3 (fun k hk => Or.inl (by simp [hk]))
            have R3 : Rd8 w3 v2 r := Rd.chg (Rd.alloc (Own8.rd hO2'.out) _) C3 (fun x hx hn => by
              simp only [Option.mem_toList] at hx
              exact hav.out x (own_lt oA2.out hx).2 hx)
            have X3 : Ext w w3 := ((Chg.of_ext [] (X2.alloc _)).trans C3 (fun x hx => by simp only [Option.mem_toList] at hx; exact Or.inr (own_lt oA2.out hx).1)).ext
            have O3 : w3.ownsRow w.heap.size 72 2 v3 (Ak ++ [(y % 2 == 1, y / 2)]).length ((Ak ++ [(y % 2 == 1, y / 2)]).flatMap cA) := by
              rw [List.length_append, List.flatMap_append]
              simpa [cA] using hown3
            go_roundw
            case rel => exact ⟨k + 1, by omega, by go_num, by show _ = _; rw [hnx2.out], by show Rd8 _ _ _; rw [hnx2.out]; exact R3, by show World.ownsRow _ _ _ _ _ _ _; rw [hnx2.out]; exact O3, X3⟩
            case measure => simp [intOf]; omega
          · have hq' : (q0 != 0) = true := by simp [hq]
            have hfin : Hid (arraysR S = (q0, [], [])) := by
              show _ = _
              have h1 : arrR (k + 1) t2 = (q0, [], []) := by rw [hnx.out, if_pos hq]
              rw [hN2.out, hstk.out (by rw [h1]; exact hq) c hlt, h1]
            go_wp2_with fail
            go_ret3
            show ArrPost w (arraysR S) _ _
            rw [hfin.out]
            exact ⟨_, _, rfl, hnil.out _, Rd8.nil _, X2⟩
        · obtain rfl : k = c := by omega
          have hfin : Hid (arraysR S = (0, Ak, Sk)) := by show _ = _; rw [hN2.out, hTk.out, hz'.out]
          go_wp2_with fail
          go_ret3
          show ArrPost w (arraysR S) _ _
          rw [hfin.out]
          exact ⟨_, _, rfl, hOk.out, hRk.out, X⟩
  · have h0' : (t0 != 0) = true := by simp [h0]
    have hN2 : Hid (arraysR S = (t0, [], [])) := by show _ = _; rw [hN.out, if_pos h0]
    go_wp2_with fail
    go_ret3
    show ArrPost w (arraysR S) _ _
    rw [hN2.out]
    exact ⟨_, _, rfl, hnil.out _, Rd8.nil _, g1⟩
end Go.Proofs.Ytchkbidekmaaiaa
