/- The reference of layer 15: code. -/
import Derived.Test.YtchkbidekmaaiaaKf
namespace Go.Proofs.Ytchkbidekmaaiaa
open Go.RowKit
set_option linter.unusedVariables false
attribute [local go_sem ↓] Go.wp_at_zero Go.wp_at_succ

/-- One instruction is read: the error, the instruction, the rest. -/
def stepI : List Int → Int × (Int × Int) × List Int
  | [] => (9, (0, 0), [])
  | x :: r => if (opAt x).2.2.2.2 then (if (wrd r).1 ≠ 0 then ((wrd r).1, (0, 0), []) else if 4294967296 ≤ (wrd r).2.1 then (2, (0, 0), []) else (0, (x, (wrd r).2.1), (wrd r).2.2)) else (0, (x, 0), r)
def codR : Nat → List Int → Int × List (Int × Int) × List Int
  | 0, S => (0, [], S)
  | k + 1, S =>
    if (codR k S).1 ≠ 0 then codR k S else
    if (stepI (codR k S).2.2).1 ≠ 0 then ((stepI (codR k S).2.2).1, [], []) else (0, (codR k S).2.1 ++ [(stepI (codR k S).2.2).2.1], (stepI (codR k S).2.2).2.2)
def codeR (S : List Int) : Int × List (Int × Int) × List Int :=
  if (wrd S).1 ≠ 0 then ((wrd S).1, [], []) else if 1024 < (wrd S).2.1 then (6, [], []) else codR (wrd S).2.1.toNat (wrd S).2.2
theorem stepI_cons (x : Int) (r : List Int) : stepI (x :: r) = if (opAt x).2.2.2.2 then (if (wrd r).1 ≠ 0 then ((wrd r).1, (0, 0), []) else if 4294967296 ≤ (wrd r).2.1 then (2, (0, 0), []) else (0, (x, (wrd r).2.1), (wrd r).2.2)) else (0, (x, 0), r) := rfl
theorem stepI_sub (S : List Int) : Sub S (stepI S).2.2 := by
  match S with
  | [] => exact Sub.refl _
  | x :: r =>
    have h1 : Sub (x :: r) r := ⟨1, rfl⟩
    have h0 : Sub (x :: r) [] := ⟨(x :: r).length, by simp⟩
    rw [stepI_cons]
    split
    · split
      · exact h0
      · split
        · exact h0
        · exact h1.trans (wrd_sub r)
    · exact h1
theorem codR_stuck (k : Nat) (S : List Int) (h : (codR k S).1 ≠ 0) : ∀ j, k ≤ j → codR j S = codR k S := by
  intro j
  induction j with
  | zero => intro hj; have h0 : k = 0 := (by omega); rw [h0]
  | succ j ih =>
    intro hj
    by_cases he : k = j + 1
    · rw [he]
    · have := ih (by omega)
      show (if (codR j S).1 ≠ 0 then codR j S else _) = _
      rw [this, if_pos h]
theorem codR_len (k : Nat) (S : List Int) : (codR k S).1 = 0 → (codR k S).2.1.length = k := by
  induction k with
  | zero => intro _; rfl
  | succ k ih =>
    intro h
    unfold codR at h ⊢
    by_cases h1 : (codR k S).1 ≠ 0
    · rw [if_pos h1] at h; exact absurd h h1
    · rw [if_neg h1] at h ⊢
      by_cases h2 : (stepI (codR k S).2.2).1 ≠ 0
      · rw [if_pos h2] at h; exact absurd h h2
      · rw [if_neg h2]
        simp only [List.length_append, List.length_singleton]
        rw [ih (Decidable.not_not.1 h1)]
theorem codR_sub (k : Nat) (S : List Int) : Sub S (codR k S).2.2 := by
  induction k with
  | zero => exact Sub.refl S
  | succ k ih =>
    unfold codR
    split
    · exact ih
    · split
      · exact ⟨S.length, by simp⟩
      · exact ih.trans (stepI_sub _)
theorem codR_err (k : Nat) (S : List Int) (h : (codR k S).1 ≠ 0) : (codR k S).2 = ([], []) := by
  induction k with
  | zero => exact absurd rfl h
  | succ k ih =>
    unfold codR at h ⊢
    by_cases h1 : (codR k S).1 ≠ 0
    · rw [if_pos h1]; exact ih h1
    · rw [if_neg h1] at h ⊢
      by_cases h2 : (stepI (codR k S).2.2).1 ≠ 0
      · rw [if_pos h2]
      · rw [if_neg h2] at h; exact absurd rfl h
def CodPost (w : World) (r : Int × List (Int × Int) × List Int) (x : Ending) (w' : World) : Prop :=
  ∃ vC v, x = .returned (.tuple #[vC, v, .int .i64 r.1]) ∧ w'.ownsRow w.heap.size 53 2 vC r.2.1.length (r.2.1.flatMap cI) ∧ Rd8 w' v r.2.2 ∧ Ext w w'

set_option maxHeartbeats 6000000 in
set_option maxRecDepth 100000 in
theorem rcode_any (v : Value) (S : List Int) (hb : Bytes S) (hS : S.length ≤ 900000) (w : World) (hR : Rd8 w v S) :
    Calls Try.prog 44 #[v] w (CodPost w (codeR S)) := by
  obtain ⟨iC, hiC, hzC0, hzC1, hzC2⟩ := info_parts insInfo2
  have hint := rint_any v S hb hS w hR
  have hri := rint_any
  have hha := rhasarg_any
  obtain ⟨T, hT⟩ : ∃ T, wrd S = T := ⟨_, rfl⟩
  have hN : Hid (codeR S = if T.1 ≠ 0 then (T.1, [], []) else if 1024 < T.2.1 then (6, [], []) else codR T.2.1.toNat T.2.2) := by show _ = _; unfold codeR; rw [hT]
  have hT0 := wrd_num S hb
  have hsub := wrd_sub S
  rw [hT] at hint hT0 hsub
  obtain ⟨t0, t1, t2⟩ := T
  simp only at hN hT0 hsub
  have hb2 : Hid (Bytes t2) := Sub.bytes hsub hb
  have hl2 : t2.length ≤ 900000 := Nat.le_trans (Sub.len hsub) hS
  replace hri := hidden hri
  replace hha := hidden hha
  replace hT0 := hidden hT0
  have hnil := hidden (fun w' => World.ownsRow_nil w' w.heap.size 53 2)
  clear hT hR hsub hb
  go_enter Try.func44, Try.ntmps44
  go_wp2_with fail
  refine hint.mono ?_
  rintro e w1 ⟨v1, rfl, hO1, g1⟩
  by_cases h0 : t0 = 0
  · subst h0
    obtain ⟨n0, n1⟩ := hT0.out rfl
    by_cases hm : 1024 < t1
    · have hN2 : Hid (codeR S = (6, [], [])) := by show _ = _; rw [hN.out, if_neg (by simp), if_pos hm]
      go_wp2_with fail
      go_ret3
      show CodPost w (codeR S) _ _
      rw [hN2.out]
      exact ⟨_, _, rfl, hnil.out _, Rd8.nil _, g1⟩
    · obtain ⟨c, rfl⟩ := Int.eq_ofNat_of_zero_le n0
      have hN2 : Hid (codeR S = codR c t2) := by show _ = _; rw [hN.out, if_neg (by simp), if_neg hm, Int.toNat_natCast]
      have R1 := hO1.rd
      replace R1 := hidden R1
      go_wp2_with fail
      go_loopw [0, 7, 8] (fun b o i wr => ∃ (k : Nat), k ≤ c ∧ i = .int .i64 (k : Int) ∧ Hid ((codR k t2).1 = 0) ∧ Hid (Rd8 wr b (codR k t2).2.2) ∧ Hid (∀ g, o.ownBlock = some g → 0 < (codR k t2).2.2.length → b.ownBlock ≠ some g) ∧ Hid (wr.ownsRow w.heap.size 53 2 o (codR k t2).2.1.length ((codR k t2).2.1.flatMap cI)) ∧ Ext w wr) (fun _ _ i _ => c - (intOf i).toNat)
      case atStart => exact ⟨0, by omega, rfl, rfl, R1, (fun g hg => by simp [Value.ownBlock] at hg), hnil.out _, g1⟩
      case round =>
        clear R1
        obtain ⟨k, hk, rfl, hz, hRk, hAk, hOk, X⟩ := hrel
        have hlk := codR_len k t2 hz.out
        have husk := codR_sub k t2
        have hnx : Hid (codR (k + 1) t2 = if (stepI (codR k t2).2.2).1 ≠ 0 then ((stepI (codR k t2).2.2).1, [], []) else (0, (codR k t2).2.1 ++ [(stepI (codR k t2).2.2).2.1], (stepI (codR k t2).2.2).2.2)) := by
          show (if (codR k t2).1 ≠ 0 then codR k t2 else _) = _
          rw [if_neg (by simp [hz.out])]
        have hstk := codR_stuck (k + 1) t2
        obtain ⟨T, hT⟩ : ∃ T, codR k t2 = T := ⟨_, rfl⟩
        rw [hT] at hlk husk hnx hRk hAk hOk hz
        have hTk := hidden hT
        obtain ⟨ee, Ck, Sk⟩ := T
        simp only at hlk husk hnx hRk hAk hOk hz
        have hz' : Hid (ee = 0) := hz
        have hbk : Hid (Bytes Sk) := husk.bytes hb2.out
        have hslk : Sk.length ≤ 900000 := Nat.le_trans husk.len hl2
        have hal : Ck.length ≤ k := by omega
        replace hlk := hidden hlk
        replace hstk := hidden hstk
        clear hT husk hz
        by_cases hlt : k < c
        · obtain ⟨ab, cb, rfl, m1, m2, m3⟩ := Rd.shape hRk.out
          have hbad : ∀ q, q ≠ 0 → (stepI Sk).1 = q → codeR S = (q, [], []) := fun q hq hs => by
            have h1 : codR (k + 1) t2 = (q, [], []) := by rw [hnx.out, hs, if_pos hq]
            rw [hN2.out, hstk.out (by rw [h1]; exact hq) c hlt, h1]
          have hgood : ∀ x r, stepI Sk = (0, x, r) → codR (k + 1) t2 = (0, Ck ++ [x], r) := fun x r hs => by rw [hnx.out, hs]; rfl
          replace hbad := hidden hbad
          replace hgood := hidden hgood
          match Sk, hbk, hslk, hRk, hAk, hbad, hgood, m1, hTk, hnx with
          | [], _, _, _, _, hbad, _, m1, _, _ =>
            have hfin : Hid (codeR S = (9, [], [])) := hbad.out 9 (by decide) rfl
            clear hbad hgood hnx hTk hRk hAk m1 m3
            simp only [List.length_nil]
            go_wp2_with fail
            go_ret3
            show CodPost w (codeR S) _ _
            rw [hfin.out]
            exact ⟨_, _, rfl, hnil.out _, Rd8.nil _, X⟩
          | x :: r, hbk, hslk, hRk, hAk, hbad, hgood, m1, hTk, hnx =>
            obtain ⟨x0, x1⟩ := hbk.out x (by simp)
            have hbr : Hid (Bytes r) := fun z hz => hbk.out z (List.mem_cons_of_mem _ hz)
            obtain ⟨bb, off, rfl, hblt⟩ := Rd8.some hRk.out (by simp)
            have hc := Rd8.at hRk.out 0 (by simp)
            simp at hc
            have hR' : Rd wr 1 (.slice (some ⟨bb, off, none⟩) (r.length + 1) cb) (r.length + 1) (bs (x :: r)) := hRk.out
            obtain ⟨a2', c2, hrun, R2, hbl⟩ := cut_l (P := Try.prog) (t := 34) Try.underlying34 Try.sizeOf5 hR' 1 1 rfl (by omega)
            rw [Nat.add_sub_cancel] at hrun R2 hbl
            have R2' : Rd8 wr (.slice a2' r.length c2) r := R2
            have hav2 : Hid (∀ g, u7.ownBlock = some g → (Value.slice a2' r.length c2).ownBlock ≠ some g) := fun g hg => hbl g (hAk.out g hg (by simp))
            have hha2 := hha.out x
            obtain ⟨t4, ht4⟩ : ∃ t, (opAt x).2.2.2.2 = t := ⟨_, rfl⟩
            rw [ht4] at hha2
            have hsc := stepI_cons x r
            rw [ht4] at hsc
            have hrl : r.length ≤ 900000 := by simp at hslk; omega
            have n1 : r.length + 1 ≤ 9223372036854775807 := by omega
            obtain ⟨aC, cC1, rfl, q1, q2, q3⟩ := own_shape hOk.out
            have hs := X.size
            obtain ⟨nr, hnr⟩ : ∃ n, r.length = n := ⟨_, rfl⟩
            simp only [List.length_cons]
            rw [hnr] at hrun R2' hav2 hrl n1 ⊢
            replace hnr := hidden hnr
            replace R2' := hidden R2'
            replace hsc := hidden hsc
            replace hha2 := hidden hha2
            clear ht4 R2 hR' m1 m3 hRk hAk hnx hTk hblt hbl hslk hbk
            go_wp2_with fail
            refine (hha2.out _).mono ?_
            rintro e _ ⟨rfl, rfl⟩
            cases t4 with
            | false =>
              have hst : Hid (codR (k + 1) t2 = (0, Ck ++ [(x, 0)], r)) := hgood.out (x, 0) r (by rw [hsc.out]; exact if_neg (by decide))
              have hnew : Hid (((wr.alloc (.cells #[.int .i64 x, .int .u32 0] 53)).alloc (.cells #[.int .i64 x, .int .u32 0] 53)).heap[wr.heap.size + 1]? = some (.cells #[.int .i64 x, .int .u32 0] 53 (0, 0))) := by
                have := heap_alloc_new (wr.alloc (.cells #[.int .i64 x, .int .u32 0] 53)) (.cells #[.int .i64 x, .int .u32 0] 53)
                rw [World.size_alloc] at this
                exact this
              go_wp2_with (at_builtin; refine wpList_append_own_at _ rfl _ _ 31 rfl w.heap.size 53 iC (.agg #[.int .i64 0, .int .u32 0]) 2 16 Try.underlying31 hiC hzC0 hzC1 hzC2 rfl (by decide) (.slice aC Ck.length cC1) Ck.length (Ck.flatMap cI) rfl (World.ownsRow.alloc (World.ownsRow.alloc hOk.out _) _) ⟨wr.heap.size + 1, 0, none⟩ 1 1 [.int .i64 x, .int .u32 0] rfl rfl (World.news_of_block (cs := #[.int .i64 x, .int .u32 0]) (t := 53) (fr := (0, 0)) hnew.out) (by simp [Value.oneCell']) (by unfold maxLen; omega) (by omega) (by simp; omega) ?_; intro v3 w3 hown3 hgrow3 _ hb3)
              have C3 : Chg (Value.slice aC Ck.length cC1).ownBlock.toList ((wr.alloc (.cells #[.int .i64 x, .int .u32 0] 53)).alloc (.cells #[.int .i64 x, .int .u32 0] 53)) w3 := (Chg.refl _ _).grown hgrow3 (fun k hk => Or.inl (by simp [hk]))
              have R3 : Rd8 w3 (.slice a2' nr c2) r := Rd.chg (Rd.alloc (Rd.alloc R2'.out _) _) C3 (fun y hy hn => by
                simp only [Option.mem_toList] at hy
                exact hav2.out y hy)
              have X3 : Ext w w3 := ((Chg.of_ext [] ((X.alloc _).alloc _)).trans C3 (fun y hy => by simp only [Option.mem_toList] at hy; exact Or.inr (own_lt hOk.out hy).1)).ext
              have hav3 : ∀ g, v3.ownBlock = some g → 0 < r.length → (Value.slice a2' nr c2).ownBlock ≠ some g := fun g hg hn => by
                rcases hb3 with hb3 | hb3
                · exact hav2.out g (hb3 ▸ hg)
                · rw [hb3] at hg
                  injection hg with hg
                  exact Rd.off R2'.out (by rw [← hg]; simp; omega) (by have := hnr.out; omega)
              have O3 : w3.ownsRow w.heap.size 53 2 v3 (Ck ++ [(x, 0)]).length ((Ck ++ [(x, 0)]).flatMap cI) := by
                rw [List.length_append, List.flatMap_append]
                simpa [cI] using hown3
              go_roundw
              case rel => exact ⟨k + 1, by omega, by go_num, by show _ = _; rw [hst.out], by show Rd8 _ _ _; rw [hst.out]; exact R3, by show ∀ g, _; rw [hst.out]; exact hav3, by show World.ownsRow _ _ _ _ _ _ _; rw [hst.out]; exact O3, X3⟩
              case measure => simp [intOf]; omega
            | true =>
              have hcall := hri.out (.slice a2' nr c2) r hbr.out (by rw [hnr.out]; exact hrl) (wr.alloc (.cells #[.int .i64 x, .int .u32 0] 53)) (Rd.alloc R2'.out _)
              have hT1 := wrd_num r hbr.out
              have hsc2 : Hid (stepI (x :: r) = if (wrd r).1 ≠ 0 then ((wrd r).1, (0, 0), []) else if 4294967296 ≤ (wrd r).2.1 then (2, (0, 0), []) else (0, (x, (wrd r).2.1), (wrd r).2.2)) := by show _ = _; rw [hsc.out]; exact if_pos rfl
              obtain ⟨N, hNe⟩ : ∃ N, wrd r = N := ⟨_, rfl⟩
              rw [hNe] at hcall hT1 hsc2
              obtain ⟨q0, y, r'⟩ := N
              simp only at hT1 hsc2
              replace hcall := hidden hcall
              replace hT1 := hidden hT1
              have B0 := Blk.new wr [.int .i64 x, .int .u32 0] 53
              replace B0 := hidden B0
              clear hNe
              go_wp2_with fail
              refine hcall.out.mono ?_
              rintro e w4 ⟨v4, rfl, hO4, g4⟩
              have X4 := (X.alloc (.cells #[.int .i64 x, .int .u32 0] 53)).trans g4
              have hs4 := g4.size
              simp only [World.size_alloc] at hs4
              by_cases hq : q0 = 0
              · subst hq
                obtain ⟨y0, y1⟩ := hT1.out rfl
                by_cases hy : 4294967296 ≤ y
                · have hfin : Hid (codeR S = (2, [], [])) := hbad.out 2 (by decide) (by rw [hsc2.out, if_neg (by simp), if_pos hy])
                  go_wp2_with fail
                  go_ret3
                  show CodPost w (codeR S) _ _
                  rw [hfin.out]
                  exact ⟨_, _, rfl, hnil.out _, Rd8.nil _, X4⟩
                · have hst : Hid (codR (k + 1) t2 = (0, Ck ++ [(x, y)], r')) := hgood.out (x, y) r' (by rw [hsc2.out, if_neg (by simp), if_neg hy])
                  have y2 : y ≤ 4294967295 := by omega
                  have B4 := B0.out.ext g4
                  have f1 := B4.frozen 1
                  have z1 := B4.cell 1 _ rfl
                  have B5 := B4.set 1 (.int .u32 y)
                  have z5 := B5.cell 0 _ rfl
                  have z6 := B5.cell 1 _ rfl
                  have hC5 := (Chg.refl [wr.heap.size] w4).setCell (p := ⟨wr.heap.size, 1, none⟩) (Or.inl (by simp)) (.int .u32 y)
                  have o4 := own_ext (World.ownsRow.alloc hOk.out (.cells #[.int .i64 x, .int .u32 0] 53)) g4
                  have o5 := own_chg o4 hC5 (fun z hz hv => by simp at hz; have := (own_lt hOk.out hv).2; omega)
                  have R5 : Rd8 (w4.setCell ⟨wr.heap.size, 1, none⟩ (.int .u32 y)) v4 r' := Rd.chg hO4.rd hC5 (fun z hz hn hv => by simp at hz; have := (own_lt hO4 hv).1; simp at this; omega)
                  have X5 : Ext w (w4.setCell ⟨wr.heap.size, 1, none⟩ (.int .u32 y)) := X4.setCell (p := ⟨wr.heap.size, 1, none⟩) hs _
                  have e5 : (w4.setCell ⟨wr.heap.size, 1, none⟩ (.int .u32 y)).heap.size = w4.heap.size := by simp [World.setCell]
                  have hnew : Hid (((w4.setCell ⟨wr.heap.size, 1, none⟩ (.int .u32 y)).alloc (.cells #[.int .i64 x, .int .u32 y] 53)).heap[w4.heap.size]? = some (.cells #[.int .i64 x, .int .u32 y] 53 (0, 0))) := by
                    have := heap_alloc_new (w4.setCell ⟨wr.heap.size, 1, none⟩ (.int .u32 y)) (.cells #[.int .i64 x, .int .u32 y] 53)
                    rw [e5] at this
                    exact this
                  have hav4 : Hid (∀ g, (Value.slice aC Ck.length cC1).ownBlock = some g → v4.ownBlock ≠ some g) := fun g hg hv => by
                    have h1 := (own_lt hO4 hv).1
                    have h2 := (own_lt hOk.out hg).2
                    simp at h1
                    omega
                  replace e5 := hidden e5
                  have o5' := hidden o5
                  have R5' := hidden R5
                  have hO4' := hidden hO4
                  clear o4 o5 R5 B4 B5 hC5 hO4
                  go_wp2_with (at_builtin; refine wpList_append_own_at _ rfl _ _ 31 rfl w.heap.size 53 iC (.agg #[.int .i64 0, .int .u32 0]) 2 16 Try.underlying31 hiC hzC0 hzC1 hzC2 rfl (by decide) (.slice aC Ck.length cC1) Ck.length (Ck.flatMap cI) rfl (World.ownsRow.alloc o5'.out _) ⟨w4.heap.size, 0, none⟩ 1 1 [.int .i64 x, .int .u32 y] rfl rfl (World.news_of_block (cs := #[.int .i64 x, .int .u32 y]) (t := 53) (fr := (0, 0)) hnew.out) (by simp [Value.oneCell']) (by unfold maxLen; omega) (by omega) (by simp; omega) ?_; intro v3 w3 hown3 hgrow3 _ hb3)
                  have C3 : Chg (Value.slice aC Ck.length cC1).ownBlock.toList ((w4.setCell ⟨wr.heap.size, 1, none⟩ (.int .u32 y)).alloc (.cells #[.int .i64 x, .int .u32 y] 53)) w3 := (Chg.refl _ _).grown hgrow3 (fun k hk => Or.inl (by simp [hk]))
                  have R3 : Rd8 w3 v4 r' := Rd.chg (Rd.alloc R5'.out _) C3 (fun z hz hn => by
                    simp only [Option.mem_toList] at hz
                    exact hav4.out z hz)
                  have X3 : Ext w w3 := ((Chg.of_ext [] (X5.alloc _)).trans C3 (fun z hz => by simp only [Option.mem_toList] at hz; exact Or.inr (own_lt hOk.out hz).1)).ext
                  have hav3 : ∀ g, v3.ownBlock = some g → 0 < r'.length → v4.ownBlock ≠ some g := fun g hg hn => by
                    rcases hb3 with hb3 | hb3
                    · exact hav4.out g (hb3 ▸ hg)
                    · rw [hb3] at hg
                      injection hg with hg
                      exact Rd.off (Own8.rd hO4'.out) (by rw [← hg, World.size_alloc, e5.out]; omega) hn
                  have O3 : w3.ownsRow w.heap.size 53 2 v3 (Ck ++ [(x, y)]).length ((Ck ++ [(x, y)]).flatMap cI) := by
                    rw [List.length_append, List.flatMap_append]
                    simpa [cI] using hown3
                  go_roundw
                  case rel => exact ⟨k + 1, by omega, by go_num, by show _ = _; rw [hst.out], by show Rd8 _ _ _; rw [hst.out]; exact R3, by show ∀ g, _; rw [hst.out]; exact hav3, by show World.ownsRow _ _ _ _ _ _ _; rw [hst.out]; exact O3, X3⟩
                  case measure => simp [intOf]; omega
              · have hq' : (q0 != 0) = true := by simp [hq]
                have hfin : Hid (codeR S = (q0, [], [])) := hbad.out q0 hq (by rw [hsc2.out, if_pos hq])
                go_wp2_with fail
                go_ret3
                show CodPost w (codeR S) _ _
                rw [hfin.out]
                exact ⟨_, _, rfl, hnil.out _, Rd8.nil _, X4⟩
        · obtain rfl : k = c := by omega
          have hfin : Hid (codeR S = (0, Ck, Sk)) := by show _ = _; rw [hN2.out, hTk.out, hz'.out]
          go_wp2_with fail
          go_ret3
          show CodPost w (codeR S) _ _
          rw [hfin.out]
          exact ⟨_, _, rfl, hOk.out, hRk.out, X⟩
  · have h0' : (t0 != 0) = true := by simp [h0]
    have hN2 : Hid (codeR S = (t0, [], [])) := by show _ = _; rw [hN.out, if_pos h0]
    go_wp2_with fail
    go_ret3
    show CodPost w (codeR S) _ _
    rw [hN2.out]
    exact ⟨_, _, rfl, hnil.out _, Rd8.nil _, g1⟩
end Go.Proofs.Ytchkbidekmaaiaa
