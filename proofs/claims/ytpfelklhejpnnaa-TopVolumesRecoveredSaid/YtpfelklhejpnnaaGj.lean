/- Layer 55: headers: plain. -/
import Derived.Test.YtpfelklhejpnnaaGf
import Derived.Test.YtpfelklhejpnnaaKb
namespace Go.Proofs.Ytpfelklhejpnnaa
set_option linter.unusedVariables false
set_option linter.unusedSimpArgs false

/-- Some numbers, read one after another: the error, the numbers, the rest. -/
def rdN : Nat → List Int → Int × List Int × List Int
  | 0, S => (0, [], S)
  | k + 1, S => if (wrd S).1 ≠ 0 then ((wrd S).1, [], []) else if (rdN k (wrd S).2.2).1 ≠ 0 then ((rdN k (wrd S).2.2).1, [], []) else (0, (wrd S).2.1 :: (rdN k (wrd S).2.2).2.1, (rdN k (wrd S).2.2).2.2)
/-- .. with some that have been read ahead of them. -/
def rdA (ns : List Int) (q : Int × List Int × List Int) : Int × List Int × List Int := if q.1 ≠ 0 then (q.1, [], []) else (0, ns ++ q.2.1, q.2.2)
theorem rdA_nil (q : Int × List Int × List Int) (h : q.1 ≠ 0 → q = (q.1, [], [])) : rdA [] q = q := by
  unfold rdA
  by_cases h0 : q.1 ≠ 0
  · rw [if_pos h0]; exact (h h0).symm
  · rw [if_neg h0]
    obtain ⟨a, b, c⟩ := q
    simp at h0
    subst h0
    rfl
theorem rdN_err (k : Nat) (S : List Int) : (rdN k S).1 ≠ 0 → rdN k S = ((rdN k S).1, [], []) := by
  intro h
  cases k with
  | zero => exact absurd rfl h
  | succ k =>
    unfold rdN at h ⊢
    by_cases h1 : (wrd S).1 ≠ 0
    · rw [if_pos h1]
    · rw [if_neg h1] at h ⊢
      by_cases h2 : (rdN k (wrd S).2.2).1 ≠ 0
      · rw [if_pos h2]
      · rw [if_neg h2] at h; exact absurd rfl h
theorem rdA_bad {ns : List Int} {k : Nat} {S : List Int} (h : (wrd S).1 ≠ 0) : rdA ns (rdN (k + 1) S) = ((wrd S).1, [], []) := by
  have : rdN (k + 1) S = ((wrd S).1, [], []) := by rw [rdN, if_pos h]
  rw [this]
  exact if_pos h
theorem rdA_step {ns : List Int} {k : Nat} {S : List Int} (h : (wrd S).1 = 0) : rdA ns (rdN (k + 1) S) = rdA (ns ++ [(wrd S).2.1]) (rdN k (wrd S).2.2) := by
  have h1 : ¬ (wrd S).1 ≠ 0 := by omega
  by_cases h2 : (rdN k (wrd S).2.2).1 ≠ 0
  · have : rdN (k + 1) S = ((rdN k (wrd S).2.2).1, [], []) := by rw [rdN, if_neg h1, if_pos h2]
    rw [this]
    unfold rdA
    rw [if_pos h2, if_pos h2]
  · have : rdN (k + 1) S = (0, (wrd S).2.1 :: (rdN k (wrd S).2.2).2.1, (rdN k (wrd S).2.2).2.2) := by rw [rdN, if_neg h1, if_neg h2]
    rw [this]
    unfold rdA
    rw [if_neg (by simp), if_neg h2]
    simp
theorem rdA_done (ns S : List Int) : rdA ns (rdN 0 S) = (0, ns, S) := by unfold rdA rdN; simp
def sizeF (n d : Nat) : Nat := max 1 ((n + d - 1) / d)
/-- Whether the numbers of a header are out of range. -/
def badN (a b c d e : Nat) : Prop := 4294967295 < a ∨ c = 0 ∨ 64 < c + d ∨ c + d ≤ b ∨ 65536 < e
instance (a b c d e : Nat) : Decidable (badN a b c d e) := by unfold badN; exact inferInstance
def z5 : List Int := [0, 0, 0, 0, 0]
/-- What Header returns, once the numbers are read. -/
def hd2 (ns r : List Int) : Int × List Int × List Int :=
  if badN (ns.getD 0 0).toNat (ns.getD 1 0).toNat (ns.getD 2 0).toNat (ns.getD 3 0).toNat (ns.getD 4 0).toNat then (2, z5, [])
  else if r.length ≠ sizeF (ns.getD 4 0).toNat (ns.getD 2 0).toNat then (3, z5, []) else (0, ns, r)
def hdF (D : List Int) : Int × List Int × List Int :=
  if (openF D).1 ≠ 0 then ((openF D).1, z5, []) else
  if (rdN 5 (openF D).2).1 ≠ 0 then ((rdN 5 (openF D).2).1, z5, []) else hd2 (rdN 5 (openF D).2).2.1 (rdN 5 (openF D).2).2.2
/-- The volume's bytes ahead of the sum. -/
def vbody (ns : List Int) (part : List Int) : List Int := (ns.flatMap fun n => wenc (wnum n)) ++ part
def volF (ns part : List Int) : List Int := sealF (vbody ns part)
theorem openF_bytes {D : List Int} (h : Go.Proofs.Ytpfelklhejpnnaa.Bytes D) : Go.Proofs.Ytpfelklhejpnnaa.Bytes (openF D).2 := by
  unfold openF
  split
  · intro x hx; cases hx
  · split
    · intro x hx; cases hx
    · split
      · intro x hx; exact h x (List.mem_of_mem_take hx)
      · intro x hx; cases hx
theorem openF_len (D : List Int) : (openF D).2.length ≤ D.length := by
  unfold openF
  split
  · simp
  · split
    · simp
    · split
      · simp
      · simp
theorem wrd_bytes {S : List Int} (h : Bytes S) : Bytes (wrd S).2.2 := by
  obtain ⟨k, hk⟩ := wrd_sub S
  rw [hk]
  exact fun x hx => h x (List.mem_of_mem_drop hx)
theorem wrd_len (S : List Int) : (wrd S).2.2.length ≤ S.length := by
  obtain ⟨k, hk⟩ := wrd_sub S
  rw [hk, List.length_drop]
  omega
end Go.Proofs.Ytpfelklhejpnnaa

/- Layer 55: size; the reference's numbers, Header. -/
namespace Go.Proofs.Ytpfelklhejpnnaa
open Go.RowKit
set_option linter.unusedVariables false
set_option linter.unusedSimpArgs false
attribute [local go_sem ↓] Go.wp_at_zero Go.wp_at_succ

theorem size_eqs (n d : Nat) (hn : n ≤ 65536) (hd0 : 0 < d) (hd : d ≤ 64) : IntKind.i64.wrap ((n : Int) + (d : Int)) = (n : Int) + (d : Int) ∧ IntKind.i64.wrap ((n : Int) + (d : Int) - 1) = (n : Int) + (d : Int) - 1 ∧ wrap64 (((n + d - 1) / d : Nat) : Int) = (((n + d - 1) / d : Nat) : Int) ∧ ((n : Int) + (d : Int) - 1).tdiv (d : Int) = (((n + d - 1) / d : Nat) : Int) ∧ max (1 : Int) (((n + d - 1) / d : Nat) : Int) = (sizeF n d : Int) := by
  have hle : (n + d - 1) / d ≤ n + d - 1 := Nat.div_le_self _ _
  have h1 : ((n : Int) + (d : Int) - 1).tdiv (d : Int) = (((n + d - 1) / d : Nat) : Int) := by
    rw [Int.tdiv_eq_ediv_of_nonneg (by omega)]
    rw [show (n : Int) + (d : Int) - 1 = ((n + d - 1 : Nat) : Int) by omega]
    rfl
  refine ⟨IntWalk.i64_in _ (by omega), IntWalk.i64_in _ (by omega), ?_, h1, ?_⟩
  · have h0 : (0 : Int) ≤ (((n + d - 1) / d : Nat) : Int) := Int.natCast_nonneg _
    unfold wrap64; omega
  · unfold sizeF; omega
set_option maxRecDepth 100000 in
theorem size_any (n d : Nat) (hn : n ≤ 65536) (hd0 : 0 < d) (hd : d ≤ 64) (w : World) : Calls Try.prog 13 #[.int .i64 (n : Int), .int .i64 (d : Int)] w fun e w' => e = .returned (.int .i64 (sizeF n d : Int)) ∧ w' = w := by
  obtain ⟨v1, v2, v3, v4, v5⟩ := size_eqs n d hn hd0 hd
  have v6 : ¬ (d : Int) = 0 := by omega
  have v7 : ¬ d = 0 := by omega
  obtain ⟨q, hq⟩ : ∃ q, (n + d - 1) / d = q := ⟨_, rfl⟩
  obtain ⟨R, hR⟩ : ∃ R, sizeF n d = R := ⟨_, rfl⟩
  rw [hq] at v3 v4 v5
  rw [hR] at v5 ⊢
  clear hq hR
  go_enter Try.func13, Try.ntmps13
  go_wp2_with fail
  go_ret
  exact ⟨rfl, rfl⟩
set_option maxRecDepth 100000 in
theorem rsize55_any (n d : Nat) (hn : n ≤ 65536) (hd0 : 0 < d) (hd : d ≤ 64) (w : World) : Calls Try.prog 35 #[.int .i64 (n : Int), .int .i64 (d : Int)] w fun e w' => e = .returned (.int .i64 (sizeF n d : Int)) ∧ w' = w := by
  obtain ⟨v1, v2, v3, v4, v5⟩ := size_eqs n d hn hd0 hd
  have v6 : ¬ (d : Int) = 0 := by omega
  have v7 : ¬ d = 0 := by omega
  obtain ⟨q, hq⟩ : ∃ q, (n + d - 1) / d = q := ⟨_, rfl⟩
  obtain ⟨R, hR⟩ : ∃ R, sizeF n d = R := ⟨_, rfl⟩
  rw [hq] at v3 v4 v5
  rw [hR] at v5 ⊢
  clear hq hR
  go_enter Try.func35, Try.ntmps35
  go_wp2_with fail
  go_ret
  exact ⟨rfl, rfl⟩

def i5 (l : List Int) : List Value := [.int .i64 (l.getD 0 0), .int .i64 (l.getD 1 0), .int .i64 (l.getD 2 0), .int .i64 (l.getD 3 0), .int .i64 (l.getD 4 0)]
theorem i5_len (l : List Int) : (i5 l).length = 5 := rfl
theorem i5_get (l : List Int) (k : Nat) (h : k < 5) : (i5 l)[k]? = some (.int .i64 (l.getD k 0)) := by
  match k, h with
  | 0, _ => rfl
  | 1, _ => rfl
  | 2, _ => rfl
  | 3, _ => rfl
  | 4, _ => rfl
theorem i5_set (l : List Int) (k : Nat) (h : l.length = k) (hk : k < 5) (x : Int) : (i5 l).set k (.int .i64 x) = i5 (l ++ [x]) := by
  refine List.ext_getElem? fun j => ?_
  by_cases hj : j < 5
  · rw [i5_get _ _ hj]
    by_cases e : k = j
    · subst e
      rw [List.getElem?_set_self (by rw [i5_len]; omega)]
      simp [List.getD, ← h]
    · rw [List.getElem?_set_ne e, i5_get _ _ hj]
      simp only [List.getD]
      by_cases e2 : j < k
      · rw [List.getElem?_append_left (by omega)]
      · rw [List.getElem?_eq_none (by omega), List.getElem?_eq_none (by simp; omega)]
  · rw [List.getElem?_eq_none (by rw [List.length_set, i5_len]; omega), List.getElem?_eq_none (by rw [i5_len]; omega)]
theorem chg_setRow (w : World) (g : Nat) (cs : Array Value) : Chg [g] w (w.setRow g cs) := ⟨rfl, rfl, rfl, by rw [size_setRow]; exact Nat.le_refl _, fun k _ hk => setRow_other w g k _ (fun e => hk (by simp [e]))⟩
theorem results_row3 {P : Program} {fn : Func} {p a b : Tmp} {ty : TypeId} (h : fn.results = #[.cell p ty, .tmp a, .tmp b]) (tmps : Array Value) (w : World) (g : Nat) (t : TypeId) (cs : Array Value) (fr : Nat × Nat) (d : TypeDesc)
    (hp : tmps.getD p undef = .pointer (some ⟨g, 0, none⟩)) (hg : w.heap[g]? = some (.cells cs t fr))
    (hu : P.underlying ty = some d) (hd : (match d with | .struct _ | .array _ _ => true | _ => false) = true) (hi : (P.info? ty).map (·.size) = some cs.size) (va vb : Value) (ha : tmps.getD a undef = va) (hb : tmps.getD b undef = vb) :
    (results fn tmps).run P w = .ok (.tuple #[.agg cs, va, vb]) w := by
  have hp' : tmps[p]?.getD undef = .pointer (some ⟨g, 0, none⟩) := by simpa using hp
  have ha' : tmps[a]?.getD undef = va := by simpa using ha
  have hb' : tmps[b]?.getD undef = vb := by simpa using hb
  simp [results, h, hp', ha', hb', asAddr, run_loadVar_row w g t ty cs fr d hg hu hd hi]
def NumP (w : World) (S : List Int) (e : Ending) (w' : World) : Prop := ∃ xs v', e = .returned (.tuple #[.agg (i5 xs).toArray, v', .int .i64 (rdN 5 S).1]) ∧ ((rdN 5 S).1 = 0 → xs = (rdN 5 S).2.1) ∧ Own8 w' w.heap.size v' (rdN 5 S).2.2 ∧ Ext w w'
set_option maxRecDepth 100000 in
set_option maxHeartbeats 2000000 in
theorem rnumbers_any (v : Value) (S : List Int) (hb : Bytes S) (hn : S.length ≤ 900000) (w : World) (hr : Rd8 w v S) :
    Calls Try.prog 34 #[v] w (NumP w S) := by
  have hint := fun (v : Value) S (hb : Bytes S) (hn : S.length ≤ 900000) W (h : Rd8 W v S) => rint_any v S hb hn W h
  have hB1 : Blk ((w.alloc (.cells #[.int .i64 0, .int .i64 0, .int .i64 0, .int .i64 0, .int .i64 0] 73)).alloc (.cells #[.int .i64 0, .int .i64 0, .int .i64 0, .int .i64 0, .int .i64 0] 73)) w.heap.size 73 (i5 []) := by
    exact (Blk.new w (i5 []) 73).alloc (.cells (i5 []).toArray 73)
  have hB2 : Blk ((w.alloc (.cells #[.int .i64 0, .int .i64 0, .int .i64 0, .int .i64 0, .int .i64 0] 73)).alloc (.cells #[.int .i64 0, .int .i64 0, .int .i64 0, .int .i64 0, .int .i64 0] 73)) (w.heap.size + 1) 73 (i5 []) := by
    have := Blk.new (w.alloc (.cells (i5 []).toArray 73)) (i5 []) 73
    rw [World.size_alloc] at this
    exact this
  have hX0 := ((Ext.refl w).alloc (.cells #[.int .i64 0, .int .i64 0, .int .i64 0, .int .i64 0, .int .i64 0] 73)).alloc (.cells #[.int .i64 0, .int .i64 0, .int .i64 0, .int .i64 0, .int .i64 0] 73)
  obtain ⟨ad, cap, rfl, q1, q2, q3⟩ := Rd.shape hr
  obtain ⟨n, hne⟩ : ∃ n, S.length = n := ⟨_, rfl⟩
  rw [hne] at hr q1 ⊢
  have hR := hr.ext hX0
  replace hint := hidden hint
  replace hb := hidden hb
  replace hne := hidden hne
  clear hr
  go_enter Try.func34, Try.ntmps34
  go_wp2_with fail
  obtain ⟨g, hg⟩ : ∃ g, w.heap.size = g := ⟨_, rfl⟩
  obtain ⟨W1, hW1⟩ : ∃ X, (w.alloc (.cells #[.int .i64 0, .int .i64 0, .int .i64 0, .int .i64 0, .int .i64 0] 73)).alloc (.cells #[.int .i64 0, .int .i64 0, .int .i64 0, .int .i64 0, .int .i64 0] 73) = X := ⟨_, rfl⟩
  rw [hW1] at hB1 hB2 hX0 hR ⊢
  rw [hg] at hB1 hB2 ⊢
  clear hW1
  replace hg := hidden hg
  have h0 : rdN 5 S = rdA [] (rdN 5 S) := (rdA_nil _ (rdN_err 5 S)).symm
  replace h0 := hidden h0
  replace hB1 := hidden hB1
  replace hB2 := hidden hB2
  replace hX0 := hidden hX0
  replace hR := hidden hR
  go_loopw [0, 6] (fun u i wr => ∃ (k : Nat) (ns T : List Int) (a : Option Addr) (m c : Nat), i = .int .i64 (k : Int) ∧ k ≤ 5 ∧ u = .slice a m c ∧ m ≤ 900000 ∧ Hid (T.length = m) ∧ Hid (Bytes T) ∧ Hid (ns.length = k) ∧ Hid (rdN 5 S = rdA ns (rdN (5 - k) T)) ∧ Hid (Rd8 wr (.slice a m c) T) ∧ Hid (k = 0 ∨ Own8 wr g (.slice a m c) T) ∧ Hid (Blk wr g 73 (i5 [])) ∧ Hid (Blk wr (g + 1) 73 (i5 ns)) ∧ Hid (Ext w wr)) (fun _ i _ => 5 - (intOf i).toNat)
  case atStart => exact ⟨0, [], S, ad, n, cap, rfl, by omega, rfl, by have := hne.out; omega, hne, hb, hidden rfl, h0, hR, hidden (Or.inl rfl), hB1, hB2, hX0⟩
  case round =>
    clear hB1 hB2 hX0 hR h0
    obtain ⟨k, ns, T, a, m, c, rfl, hk, rfl, hm, hT, hbT, hns, hq, hR, hO, hB1, hB2, hX⟩ := hrel
    have v1 : IntKind.i64.wrap ((k : Int) + 1) = (k : Int) + 1 := IntWalk.i64_in _ (by omega)
    obtain ⟨w2, hWW⟩ : ∃ X, X = wr := ⟨_, rfl⟩
    subst hWW
    by_cases hlt : k < 5
    · have hlt2 : (k : Int) < 5 := by omega
      have hc := hint.out _ T hbT.out (by rw [hT.out]; exact hm) w2 hR.out
      replace hc := hidden hc
      go_wp2_with fail
      refine hc.out.mono ?_
      rintro e w3 ⟨v3, rfl, hO3, hX3⟩
      have hXn := hX.out.trans hX3
      have hB1' := hB1.out.ext hX3
      have hB2' := hB2.out.ext hX3
      have hwb := wrd_bytes hbT.out
      have hwl := wrd_len T
      have hstep := fun he : (wrd T).1 = 0 => rdA_step (ns := ns) (k := 4 - k) he
      have hbad := fun he : (wrd T).1 ≠ 0 => rdA_bad (ns := ns) (k := 4 - k) he
      rw [show 4 - k + 1 = 5 - k by omega] at hstep hbad
      obtain ⟨⟨er, x, T2⟩, hwe⟩ : ∃ q, wrd T = q := ⟨_, rfl⟩
      rw [hwe] at hO3 hwb hwl hstep hbad ⊢
      dsimp only at hO3 hwb hwl hstep hbad ⊢
      have hOx := own_mono hO3 hX.out.size
      rw [hg.out] at hOx
      clear hwe hc hint
      by_cases he : er = 0
      · have hst := hstep he
        subst he
        rw [hT.out] at hwl
        obtain ⟨a3, c3, rfl, s1, s2, -⟩ := own_shape hO3
        obtain ⟨m3, hm3⟩ : ∃ m, T2.length = m := ⟨_, rfl⟩
        rw [hm3] at s1 hwl ⊢
        have hR3 : Rd8 w3 (.slice a3 m3 c3) T2 := by have := Own8.rd hO3; rw [hm3] at this; exact this
        have hO4 : Own8 w3 g (.slice a3 m3 c3) T2 := by rw [← hm3]; exact hOx
        have cX := hB2'.cell k _ (i5_get ns k (by omega))
        have fX := hB2'.frozen k
        have hB2n := hB2'.set k (.int .i64 x)
        rw [i5_set ns k hns.out (by omega)] at hB2n
        have hB1n := hB1'.set_other (i := k) (c := g + 1) (by omega) (.int .i64 x)
        have hXm := hXn.setCell (p := ⟨g + 1, k, none⟩) (show w.heap.size ≤ g + 1 by rw [hg.out]; omega) (.int .i64 x)
        have hC : Chg [g + 1] w3 (w3.setCell ⟨g + 1, k, none⟩ (.int .i64 x)) := (Chg.refl _ _).setCell (Or.inl (by simp)) _
        have hnb : (Value.slice a3 m3 c3).ownBlock ≠ some (g + 1) := by
          have h8 := hX.out.size
          have h9 := hB2.out.lt
          intro e
          have h10 := (own_lt hO3 (by rw [hm3]; exact e)).1
          omega
        have hR5 := Rd.chg hR3 hC (fun y hy _ => by simp at hy; subst hy; exact hnb)
        have hO5 := own_chg hO4 hC (fun y hy => by simp at hy; subst hy; exact hnb)
        have hns2 : (ns ++ [x]).length = k + 1 := by rw [List.length_append, hns.out]; rfl
        rw [show 4 - k = 5 - (k + 1) by omega] at hst
        have hqn := hq.out.trans hst
        replace hR5 := hidden hR5
        replace hO5 := hidden hO5
        replace hB2n := hidden hB2n
        replace hB1n := hidden hB1n
        replace hXm := hidden hXm
        replace hqn := hidden hqn
        replace hns2 := hidden hns2
        replace hwb := hidden hwb
        replace hm3 := hidden hm3
        have hm9 : m3 ≤ 900000 := by omega
        clear hO3 hOx hstep hbad hst hR3 hO4 hC hnb hXn hX3 hB1' hB2' hq hR hO hB1 hB2 hX hwl
        go_wp2_with fail
        go_roundw
        case rel => exact ⟨k + 1, ns ++ [x], T2, a3, m3, c3, by go_num, by omega, rfl, hm9, hm3, hwb, hns2, hqn, hR5, hidden (Or.inr hO5.out), hB1n, hB2n, hXm⟩
        case measure => simp [intOf]; omega
      · have hst := hbad he
        have hqn := hq.out.trans hst
        have he2 : (er == 0) = false := by simp [he]
        have he3 : (er != 0) = true := by simp [he]
        have hi55 : (Try.prog.info? 73).map (·.size) = some 5 := by kernel_rfl
        have hr3 : w3.heap[g + 1]? = some (.cells (i5 ns).toArray 73 (0, 0)) := hB2'
        have hr2 : w3.heap[g]? = some (.cells (i5 []).toArray 73 (0, 0)) := hB1'
        have hXr : Ext w (w3.setRow g (i5 ns).toArray) := below_setRow hXn (by rw [hg.out]; omega) _
        have hrow := setRow_heap w3 g _ (i5 ns).toArray 73 _ hr2
        replace hqn := hidden hqn
        replace hXr := hidden hXr
        clear hO3 hOx hstep hbad hst hXn hX3 hq hR hO hB1 hB2 hX hwl hB1' hB2' hwb
        go_upto_region 7 with fail
        go_wp2_with (first | (refine wpList_load_row rfl 73 (.tmp 5) rfl (g + 1) rfl 73 (i5 ns).toArray (0, 0) _ hr3 Try.underlying73 rfl hi55 ?_) | (refine wpList_store_row rfl 73 (.tmp 2) (.tmp 22) rfl g (i5 ns).toArray rfl rfl 73 _ hr2 hi55 rfl (by simp [i5, Value.oneCell']) ?_))
        refine bodyPost_ret (results_row3 (p := 2) (a := 3) (b := 4) (ty := 73) (by kernel_rfl) _ _ g 73 (i5 ns).toArray (0, 0) _ rfl hrow Try.underlying73 rfl hi55 _ _ rfl rfl) rfl ?_
        exact ⟨ns, .slice none 0 0, by rw [hqn.out]; rfl, fun h => absurd (by rw [hqn.out] at h; exact h) he, by rw [hqn.out]; exact World.ownsRow_nil _ _ _ _, hXr.out⟩
    · have hke : k = 5 := by omega
      have hq2 := hq.out
      have hns2 := hns.out
      rw [hke, show 5 - 5 = 0 from rfl, rdA_done] at hq2
      have hOx : Own8 w2 g (.slice a m c) T := hO.out.resolve_left (by omega)
      have hi55 : (Try.prog.info? 73).map (·.size) = some 5 := by kernel_rfl
      have hr3 : w2.heap[g + 1]? = some (.cells (i5 ns).toArray 73 (0, 0)) := hB2.out
      have hr2 : w2.heap[g]? = some (.cells (i5 []).toArray 73 (0, 0)) := hB1.out
      have hXr : Ext w (w2.setRow g (i5 ns).toArray) := below_setRow hX.out (by rw [hg.out]; omega) _
      have hrow := setRow_heap w2 g _ (i5 ns).toArray 73 _ hr2
      have hnb := own_ne_blk hOx hB1.out (by decide)
      have hO6 : Own8 (w2.setRow g (i5 ns).toArray) g (.slice a m c) T := own_chg hOx (chg_setRow w2 g (i5 ns).toArray) (fun y hy => by simp at hy; subst hy; exact hnb)
      have hT2 := hT.out
      subst hke
      replace hq2 := hidden hq2
      replace hO6 := hidden hO6
      replace hXr := hidden hXr
      clear hq hOx hnb hR hO hB1 hB2 hX hint hT2
      go_upto_region 9 with fail
      go_wp2_with (first | (refine wpList_load_row rfl 73 (.tmp 5) rfl (g + 1) rfl 73 (i5 ns).toArray (0, 0) _ hr3 Try.underlying73 rfl hi55 ?_) | (refine wpList_store_row rfl 73 (.tmp 2) (.tmp 28) rfl g (i5 ns).toArray rfl rfl 73 _ hr2 hi55 rfl (by simp [i5, Value.oneCell']) ?_))
      refine bodyPost_ret (results_row3 (p := 2) (a := 3) (b := 4) (ty := 73) (by kernel_rfl) _ _ g 73 (i5 ns).toArray (0, 0) _ rfl hrow Try.underlying73 rfl hi55 _ _ rfl rfl) rfl ?_
      exact ⟨ns, .slice a m c, by rw [hq2.out]; rfl, fun _ => by rw [hq2.out], by rw [hq2.out, hg.out]; exact hO6.out, hXr.out⟩
end Go.Proofs.Ytpfelklhejpnnaa

/- Layer 55: the reference's Header. -/
namespace Go.Proofs.Ytpfelklhejpnnaa
open Go.RowKit
set_option linter.unusedVariables false
set_option linter.unusedSimpArgs false
attribute [local go_sem ↓] Go.wp_at_zero Go.wp_at_succ

/-- A header's cells. -/
def vH (l : List Int) : List Value := [.int .u32 (l.getD 0 0), .int .i64 (l.getD 1 0), .int .i64 (l.getD 2 0), .int .i64 (l.getD 3 0), .int .i64 (l.getD 4 0)]
def HdP (w : World) (r : Int × List Int × List Int) (e : Ending) (w' : World) : Prop := ∃ v', e = .returned (.tuple #[.agg (vH r.2.1).toArray, v', .int .i64 r.1]) ∧ Own8 w' w.heap.size v' r.2.2 ∧ Ext w w'
theorem nums_nat {S : List Int} (hb : Bytes S) : ∀ k, ∀ x ∈ (rdN k S).2.1, 0 ≤ x ∧ x ≤ 9007199254740991 := by
  intro k
  induction k generalizing S with
  | zero => intro x hx; cases hx
  | succ k ih =>
    intro x hx
    unfold rdN at hx
    by_cases h1 : (wrd S).1 ≠ 0
    · rw [if_pos h1] at hx; cases hx
    · rw [if_neg h1] at hx
      by_cases h2 : (rdN k (wrd S).2.2).1 ≠ 0
      · rw [if_pos h2] at hx; cases hx
      · rw [if_neg h2] at hx
        rcases List.mem_cons.1 hx with rfl | hx
        · exact wrd_num S hb (by omega)
        · exact ih (wrd_bytes hb) x hx
theorem nums_len {S : List Int} : ∀ k, (rdN k S).1 = 0 → (rdN k S).2.1.length = k := by
  intro k
  induction k generalizing S with
  | zero => intro _; rfl
  | succ k ih =>
    intro h
    unfold rdN at h ⊢
    by_cases h1 : (wrd S).1 ≠ 0
    · rw [if_pos h1] at h; exact absurd h h1
    · rw [if_neg h1] at h ⊢
      by_cases h2 : (rdN k (wrd S).2.2).1 ≠ 0
      · rw [if_pos h2] at h; exact absurd h h2
      · rw [if_neg h2] at h ⊢
        show ((wrd S).2.1 :: (rdN k (wrd S).2.2).2.1).length = k + 1
        rw [List.length_cons, ih (S := (wrd S).2.2) (by omega)]
theorem nums_rest {S : List Int} : ∀ k, ∃ j, (rdN k S).2.2 = S.drop j := by
  intro k
  induction k generalizing S with
  | zero => exact ⟨0, rfl⟩
  | succ k ih =>
    unfold rdN
    by_cases h1 : (wrd S).1 ≠ 0
    · rw [if_pos h1]; exact ⟨S.length, by simp⟩
    · rw [if_neg h1]
      by_cases h2 : (rdN k (wrd S).2.2).1 ≠ 0
      · rw [if_pos h2]; exact ⟨S.length, by simp⟩
      · rw [if_neg h2]
        obtain ⟨j, hj⟩ := ih (S := (wrd S).2.2)
        obtain ⟨i, hi⟩ := wrd_sub S
        exact ⟨i + j, by show (rdN k (wrd S).2.2).2.2 = _; rw [hj, hi, List.drop_drop]⟩
theorem getD_nat {l : List Int} (h : ∀ x ∈ l, 0 ≤ x ∧ x ≤ 9007199254740991) (k : Nat) : ∃ n : Nat, l.getD k 0 = (n : Int) ∧ n ≤ 9007199254740991 := by
  by_cases hk : k < l.length
  · have := h _ (List.getElem_mem hk)
    refine ⟨l[k].toNat, ?_, by omega⟩
    rw [List.getD_eq_getElem?_getD, List.getElem?_eq_getElem hk]
    show l[k] = _
    omega
  · exact ⟨0, by rw [List.getD_eq_getElem?_getD, List.getElem?_eq_none (by omega)]; rfl, by omega⟩
set_option maxRecDepth 100000 in
set_option maxHeartbeats 2000000 in
theorem rheader_any (v : Value) (D : List Int) (hb : Bytes D) (hn : D.length ≤ 900000) (w : World) (hr : Rd8 w v D) :
    Calls Try.prog 20 #[v] w (HdP w (hdF D)) := by
  have hop := fun W (hX : Ext w W) => ropen_any v D hb hn W (Rd.ext hr hX)
  have hbo := openF_bytes hb
  have hlo := openF_len D
  have hnm := fun (v : Value) W (hv : Rd8 W v (openF D).2) => rnumbers_any v (openF D).2 hbo (by omega) W hv
  have hB1 := Blk.new w (vH z5) 47
  have hX0 : Ext w (w.alloc (.cells (vH z5).toArray 47)) := (Ext.refl w).alloc _
  have hop1 := hop _ hX0
  obtain ⟨ad, cap, rfl, q1, q2, q3⟩ := Rd.shape hr
  obtain ⟨n, hne⟩ : ∃ n, D.length = n := ⟨_, rfl⟩
  rw [hne] at hop1 q1 ⊢
  replace hnm := hidden hnm
  replace hop1 := hidden hop1
  replace hB1 := hidden hB1
  replace hX0 := hidden hX0
  replace hbo := hidden hbo
  clear hr hop
  go_enter Try.func20, Try.ntmps20
  go_wp2_with fail
  refine hop1.out.mono ?_
  rintro e w1 ⟨v1, rfl, hO1, hX1⟩
  clear hop1
  obtain ⟨g, hg⟩ : ∃ g, w.heap.size = g := ⟨_, rfl⟩
  have hi47 : (Try.prog.info? 47).map (·.size) = some 5 := by kernel_rfl
  have hi73 : (Try.prog.info? 73).map (·.size) = some 5 := by kernel_rfl
  have hB2 := hB1.out.ext hX1
  have hX2 := hX0.out.trans hX1
  have hOb := own_mono hO1 (b' := g) (by rw [World.size_alloc, hg]; omega)
  rw [hg] at hB2 ⊢
  replace hg := hidden hg
  clear hX1 hB1 hX0 hO1
  by_cases he : (openF D).1 = 0
  · have hF : hdF D = if (rdN 5 (openF D).2).1 ≠ 0 then ((rdN 5 (openF D).2).1, z5, []) else hd2 (rdN 5 (openF D).2).2.1 (rdN 5 (openF D).2).2.2 := by
      conv => lhs; unfold hdF
      rw [if_neg (by omega)]
    have hnn := nums_nat hbo.out 5
    have hnl := nums_len (S := (openF D).2) 5
    have hnr := nums_rest (S := (openF D).2) 5
    obtain ⟨T, hT⟩ : ∃ T, (openF D).2 = T := ⟨_, rfl⟩
    rw [hT] at hOb hF hnn hnl hnr hlo
    rw [show (((openF D).1 : Nat) : Int) = 0 by omega]
    have hc := hnm.out v1 w1 (by rw [hT]; exact Own8.rd hOb)
    rw [hT] at hc
    clear hnm hbo hT he
    replace hc := hidden hc
    have HF := hidden hF
    have HNN := hidden hnn
    have HNL := hidden hnl
    have HNR := hidden hnr
    clear hF hnn hnl hnr
    go_wp2_with fail
    refine hc.out.mono ?_
    rintro e w2 ⟨xs, v2, rfl, hxs, hO2, hX3⟩
    have hF := HF.out
    have hnn := HNN.out
    have hnl := HNL.out
    have hnr := HNR.out
    clear HF HNN HNL HNR
    have hB3 := hB2.ext hX3
    have hX4 := hX2.trans hX3
    have hO4 := own_mono hO2 (b' := g) (by have := hX2.size; rw [hg.out] at this; exact this)
    have hz0 : (w2.alloc (.cells #[.int .i64 0, .int .i64 0, .int .i64 0, .int .i64 0, .int .i64 0] 73)).heap[w2.heap.size]? = some (.cells #[.int .i64 0, .int .i64 0, .int .i64 0, .int .i64 0, .int .i64 0] 73 (0, 0)) := heap_alloc_new w2 _
    have hXs : Ext w2 ((w2.alloc (.cells #[.int .i64 0, .int .i64 0, .int .i64 0, .int .i64 0, .int .i64 0] 73)).setRow w2.heap.size (i5 xs).toArray) := below_setRow ((Ext.refl w2).alloc _) (Nat.le_refl _) _
    have hG2 : Blk ((w2.alloc (.cells #[.int .i64 0, .int .i64 0, .int .i64 0, .int .i64 0, .int .i64 0] 73)).setRow w2.heap.size (i5 xs).toArray) w2.heap.size 73 (i5 xs) := setRow_heap _ w2.heap.size _ _ 73 _ hz0
    have hB5 := hB3.ext hXs
    have hX5 := hX4.trans hXs
    have hO5 := own_ext hO4 hXs
    obtain ⟨er, hee⟩ : ∃ x, (rdN 5 T).1 = x := ⟨_, rfl⟩
    rw [hee] at hF hxs hnl ⊢
    clear hc hO2 hX3 hB2 hX2 hOb hB3 hX4 hO4 hXs
    have hG2' := hidden hG2
    replace hB5 := hidden hB5
    replace hX5 := hidden hX5
    replace hO5 := hidden hO5
    obtain ⟨IX, hIX⟩ : ∃ x, (i5 xs).toArray = x := ⟨_, rfl⟩
    have hIs : IX.size = 5 := by rw [← hIX]; rfl
    have hIa : IX.all (·.oneCell') = true := by rw [← hIX]; simp [i5, Value.oneCell']
    rw [hIX] at hG2' hB5 hX5 hO5 ⊢
    clear hG2
    replace hIX := hidden hIX
    by_cases he : er = 0
    · rw [if_neg (by omega)] at hF
      have hx2 := hxs he
      subst he
      rw [← hx2] at hF hnn hnl
      have hl5 := hnl rfl
      have eIX := hIX.out
      obtain ⟨a, ha, ha2⟩ := getD_nat hnn 0
      obtain ⟨b, hb2, hb3⟩ := getD_nat hnn 1
      obtain ⟨c, hc2, hc3⟩ := getD_nat hnn 2
      obtain ⟨d, hdd, hd3⟩ := getD_nat hnn 3
      obtain ⟨f, hf2, hf3⟩ := getD_nat hnn 4
      have hG3 := hG2'.out
      have d0 := hG3.cell 0 _ (i5_get xs 0 (by omega))
      have d1 := hG3.cell 1 _ (i5_get xs 1 (by omega))
      have d2 := hG3.cell 2 _ (i5_get xs 2 (by omega))
      have d3 := hG3.cell 3 _ (i5_get xs 3 (by omega))
      have d4 := hG3.cell 4 _ (i5_get xs 4 (by omega))
      rw [ha] at d0
      rw [hb2] at d1
      rw [hc2] at d2
      rw [hdd] at d3
      rw [hf2] at d4
      unfold hd2 at hF
      rw [ha, hb2, hc2, hdd, hf2] at hF
      simp only [Int.toNat_natCast] at hF
      have hvh : (vH xs).toArray = #[.int .u32 (a : Int), .int .i64 (b : Int), .int .i64 (c : Int), .int .i64 (d : Int), .int .i64 (f : Int)] := by unfold vH; rw [ha, hb2, hc2, hdd, hf2]
      obtain ⟨j, hj⟩ := hnr
      obtain ⟨R, hRe⟩ : ∃ R, (rdN 5 T).2.2 = R := ⟨_, rfl⟩
      rw [hRe] at hF hO5 hj
      obtain ⟨a2, c9, rfl, s1, s2, -⟩ := own_shape hO5.out
      obtain ⟨m, hm⟩ : ∃ m, R.length = m := ⟨_, rfl⟩
      have hm1 : m ≤ 900000 := by rw [← hm, hj, List.length_drop]; omega
      rw [hm] at hF s1 ⊢
      have hO6 : Hid (Own8 ((w2.alloc (.cells #[.int .i64 0, .int .i64 0, .int .i64 0, .int .i64 0, .int .i64 0] 73)).setRow w2.heap.size IX) g (.slice a2 m c9) R) := hidden (by have := hO5.out; unfold Own8 at this ⊢; rw [hm] at this ⊢; exact this)
      clear hO5 hnn hnl hxs hx2 hc2 hdd hf2 hb2 ha hj hRe hee
      go_upto_region 7 with (refine wpList_store_row rfl 73 (.tmp 6) (.tmp 24) rfl w2.heap.size IX rfl rfl 73 _ hz0 (by rw [hIs]; exact hi73) hIs.symm hIa ?_)
      obtain ⟨W3, hW3⟩ : ∃ X, (w2.alloc (.cells #[.int .i64 0, .int .i64 0, .int .i64 0, .int .i64 0, .int .i64 0] 73)).setRow w2.heap.size IX = X := ⟨_, rfl⟩
      rw [hW3] at hB5 hX5 hO6 d0 d1 d2 d3 d4 ⊢
      clear hW3 hz0 hG2' hG3 eIX
      have vs : IntKind.i64.wrap ((c : Int) + (d : Int)) = (c : Int) + (d : Int) := IntWalk.i64_in _ (by omega)
      go_quiet (fail)
      have hr2 : (W3.drewN nq).heap[g]? = some (.cells (vH z5).toArray 47 (0, 0)) := hB5.out
      have hrow := setRow_heap (W3.drewN nq) g _ (vH z5).toArray 47 _ hr2
      have hX6 := hX5.out.drewN nq
      have hXr : Ext w ((W3.drewN nq).setRow g (vH z5).toArray) := below_setRow hX6 (by rw [hg.out]; exact Nat.le_refl _) _
      replace hXr := hidden hXr
      have hFb : badN a b c d f → hdF D = (2, z5, []) := fun h => by rw [hF, if_pos h]
      have hFg : ¬ badN a b c d f → hdF D = if m ≠ sizeF f c then (3, z5, []) else (0, xs, R) := fun h => by rw [hF, if_neg h]
      replace hFb := hidden hFb
      replace hFg := hidden hFg
      clear hF
      by_cases p1 : 4294967295 < a
      · have u1 : (4294967296 : Int) ≤ (a : Int) := by omega
        have hF2 := hFb.out (by unfold badN; omega)
        replace hF2 := hidden hF2
        clear hFb hFg
        go_upto_region 9 with fail
        go_wp2_with (refine wpList_store_row rfl 47 (.tmp 2) (.tmp 64) rfl g (vH z5).toArray rfl rfl 47 _ hr2 hi47 rfl (by simp [vH, Value.oneCell']) ?_)
        refine bodyPost_ret (results_row3 (p := 2) (a := 3) (b := 4) (ty := 47) (by kernel_rfl) _ _ g 47 (vH z5).toArray (0, 0) _ rfl hrow Try.underlying47 rfl hi47 _ _ rfl rfl) rfl ?_
        exact ⟨.slice none 0 0, by rw [hF2.out]; rfl, by rw [hF2.out]; exact World.ownsRow_nil _ _ _ _, hXr.out⟩
      have u1 : ¬ (4294967296 : Int) ≤ (a : Int) := by omega
      by_cases p2 : c = 0
      · have u2 : (c : Int) < 1 := by omega
        have hF2 := hFb.out (by unfold badN; omega)
        replace hF2 := hidden hF2
        clear hFb hFg
        go_upto_region 9 with fail
        go_wp2_with (refine wpList_store_row rfl 47 (.tmp 2) (.tmp 64) rfl g (vH z5).toArray rfl rfl 47 _ hr2 hi47 rfl (by simp [vH, Value.oneCell']) ?_)
        refine bodyPost_ret (results_row3 (p := 2) (a := 3) (b := 4) (ty := 47) (by kernel_rfl) _ _ g 47 (vH z5).toArray (0, 0) _ rfl hrow Try.underlying47 rfl hi47 _ _ rfl rfl) rfl ?_
        exact ⟨.slice none 0 0, by rw [hF2.out]; rfl, by rw [hF2.out]; exact World.ownsRow_nil _ _ _ _, hXr.out⟩
      have u2 : ¬ (c : Int) < 1 := by omega
      by_cases p3 : 64 < c + d
      · have u3 : (64 : Int) < (c : Int) + (d : Int) := by omega
        have hF2 := hFb.out (by unfold badN; omega)
        replace hF2 := hidden hF2
        clear hFb hFg
        go_upto_region 9 with fail
        go_wp2_with (refine wpList_store_row rfl 47 (.tmp 2) (.tmp 64) rfl g (vH z5).toArray rfl rfl 47 _ hr2 hi47 rfl (by simp [vH, Value.oneCell']) ?_)
        refine bodyPost_ret (results_row3 (p := 2) (a := 3) (b := 4) (ty := 47) (by kernel_rfl) _ _ g 47 (vH z5).toArray (0, 0) _ rfl hrow Try.underlying47 rfl hi47 _ _ rfl rfl) rfl ?_
        exact ⟨.slice none 0 0, by rw [hF2.out]; rfl, by rw [hF2.out]; exact World.ownsRow_nil _ _ _ _, hXr.out⟩
      have u3 : ¬ (64 : Int) < (c : Int) + (d : Int) := by omega
      by_cases p4 : c + d ≤ b
      · have u4 : (c : Int) + (d : Int) ≤ (b : Int) := by omega
        have hF2 := hFb.out (by unfold badN; omega)
        replace hF2 := hidden hF2
        clear hFb hFg
        go_upto_region 9 with fail
        go_wp2_with (refine wpList_store_row rfl 47 (.tmp 2) (.tmp 64) rfl g (vH z5).toArray rfl rfl 47 _ hr2 hi47 rfl (by simp [vH, Value.oneCell']) ?_)
        refine bodyPost_ret (results_row3 (p := 2) (a := 3) (b := 4) (ty := 47) (by kernel_rfl) _ _ g 47 (vH z5).toArray (0, 0) _ rfl hrow Try.underlying47 rfl hi47 _ _ rfl rfl) rfl ?_
        exact ⟨.slice none 0 0, by rw [hF2.out]; rfl, by rw [hF2.out]; exact World.ownsRow_nil _ _ _ _, hXr.out⟩
      have u4 : ¬ (c : Int) + (d : Int) ≤ (b : Int) := by omega
      by_cases p5 : 65536 < f
      · have u5 : (65536 : Int) < (f : Int) := by omega
        have hF2 := hFb.out (by unfold badN; omega)
        replace hF2 := hidden hF2
        clear hFb hFg
        go_upto_region 9 with fail
        go_wp2_with (refine wpList_store_row rfl 47 (.tmp 2) (.tmp 64) rfl g (vH z5).toArray rfl rfl 47 _ hr2 hi47 rfl (by simp [vH, Value.oneCell']) ?_)
        refine bodyPost_ret (results_row3 (p := 2) (a := 3) (b := 4) (ty := 47) (by kernel_rfl) _ _ g 47 (vH z5).toArray (0, 0) _ rfl hrow Try.underlying47 rfl hi47 _ _ rfl rfl) rfl ?_
        exact ⟨.slice none 0 0, by rw [hF2.out]; rfl, by rw [hF2.out]; exact World.ownsRow_nil _ _ _ _, hXr.out⟩
      have u5 : ¬ (65536 : Int) < (f : Int) := by omega
      have hF2 := hFg.out (by unfold badN; omega)
      have hsz := rsize55_any f c (by omega) (by omega) (by omega) (W3.drewN nq)
      obtain ⟨sz, hsze⟩ : ∃ s, sizeF f c = s := ⟨_, rfl⟩
      rw [hsze] at hsz hF2
      replace hsz := hidden hsz
      clear hFb hFg hsze
      have q1' : a ≤ 4294967295 := by omega
      have HF2 := hidden hF2
      clear p1 p2 p3 p4 p5 hF2
      go_upto_region 10 with fail
      clear u1 u2 u3 u4 u5 vs
      have vw : IntKind.u32.wrap (a : Int) = (a : Int) := IntWalk.u32_in _ (by omega)
      by_cases hms : m = sz
      · have hF3 := HF2.out
        rw [if_neg (by omega)] at hF3
        subst hms
        replace hF3 := hidden hF3
        clear HF2
        go_upto_region 12 with (refine hsz.out.mono ?_; rintro e w4 ⟨rfl, rfl⟩)
        have hrow2 := setRow_heap (W3.drewN nq) g _ #[.int .u32 (a : Int), .int .i64 (b : Int), .int .i64 (c : Int), .int .i64 (d : Int), .int .i64 (f : Int)] 47 _ hr2
        have hXr2 : Ext w ((W3.drewN nq).setRow g #[.int .u32 (a : Int), .int .i64 (b : Int), .int .i64 (c : Int), .int .i64 (d : Int), .int .i64 (f : Int)]) := below_setRow hX6 (by rw [hg.out]; exact Nat.le_refl _) _
        have hnb := own_ne_blk (own_ext hO6.out ((Ext.refl W3).drewN nq)) (q := g) (t := 47) (cs := vH z5) hr2 (by decide)
        have hO7 : Own8 ((W3.drewN nq).setRow g #[.int .u32 (a : Int), .int .i64 (b : Int), .int .i64 (c : Int), .int .i64 (d : Int), .int .i64 (f : Int)]) g (.slice a2 m c9) R := own_chg (own_ext hO6.out ((Ext.refl W3).drewN nq)) (chg_setRow _ g #[.int .u32 (a : Int), .int .i64 (b : Int), .int .i64 (c : Int), .int .i64 (d : Int), .int .i64 (f : Int)]) (fun y hy => by simp at hy; subst hy; exact hnb)
        replace hXr2 := hidden hXr2
        replace hO7 := hidden hO7
        replace hvh := hidden hvh
        clear hnb hsz
        go_wp2_with (refine wpList_store_row rfl 47 (.tmp 2) (.tmp 78) rfl g #[.int .u32 (a : Int), .int .i64 (b : Int), .int .i64 (c : Int), .int .i64 (d : Int), .int .i64 (f : Int)] rfl rfl 47 _ hr2 hi47 rfl (by simp [Value.oneCell']) ?_)
        refine bodyPost_ret (results_row3 (p := 2) (a := 3) (b := 4) (ty := 47) (by kernel_rfl) _ _ g 47 #[.int .u32 (a : Int), .int .i64 (b : Int), .int .i64 (c : Int), .int .i64 (d : Int), .int .i64 (f : Int)] (0, 0) _ rfl hrow2 Try.underlying47 rfl hi47 _ _ rfl rfl) rfl ?_
        exact ⟨.slice a2 m c9, by rw [hF3.out, hvh.out]; rfl, by rw [hF3.out, hg.out]; exact hO7.out, hXr2.out⟩
      · have hF3 := HF2.out
        rw [if_pos hms] at hF3
        have hms2 : ¬ (m : Int) = (sz : Int) := by omega
        have hms3 : decide (m = sz) = false := decide_eq_false hms
        replace hF3 := hidden hF3
        clear HF2
        go_upto_region 11 with (refine hsz.out.mono ?_; rintro e w4 ⟨rfl, rfl⟩)
        go_wp2_with (refine wpList_store_row rfl 47 (.tmp 2) (.tmp 71) rfl g (vH z5).toArray rfl rfl 47 _ hr2 hi47 rfl (by simp [vH, Value.oneCell']) ?_)
        refine bodyPost_ret (results_row3 (p := 2) (a := 3) (b := 4) (ty := 47) (by kernel_rfl) _ _ g 47 (vH z5).toArray (0, 0) _ rfl hrow Try.underlying47 rfl hi47 _ _ rfl rfl) rfl ?_
        exact ⟨.slice none 0 0, by rw [hF3.out]; rfl, by rw [hF3.out]; exact World.ownsRow_nil _ _ _ _, hXr.out⟩
    · rw [if_pos he] at hF
      have e1 : (er == 0) = false := by simp [he]
      have e2 : (er != 0) = true := by simp [he]
      go_upto_region 5 with (refine wpList_store_row rfl 73 (.tmp 6) (.tmp 24) rfl w2.heap.size IX rfl rfl 73 _ hz0 (by rw [hIs]; exact hi73) hIs.symm hIa ?_)
      obtain ⟨W3, hW3⟩ : ∃ X, (w2.alloc (.cells #[.int .i64 0, .int .i64 0, .int .i64 0, .int .i64 0, .int .i64 0] 73)).setRow w2.heap.size IX = X := ⟨_, rfl⟩
      rw [hW3] at hB5 hX5 ⊢
      clear hW3 hz0 hG2'
      replace hF := hidden hF
      have hr2 : W3.heap[g]? = some (.cells (vH z5).toArray 47 (0, 0)) := hB5.out
      have hrow := setRow_heap W3 g _ (vH z5).toArray 47 _ hr2
      have hXr : Ext w (W3.setRow g (vH z5).toArray) := below_setRow (hX5.out) (by rw [hg.out]; exact Nat.le_refl _) _
      replace hXr := hidden hXr
      go_upto_region 6 with fail
      go_wp2_with (refine wpList_store_row rfl 47 (.tmp 2) (.tmp 29) rfl g (vH z5).toArray rfl rfl 47 _ hr2 hi47 rfl (by simp [vH, Value.oneCell']) ?_)
      refine bodyPost_ret (results_row3 (p := 2) (a := 3) (b := 4) (ty := 47) (by kernel_rfl) _ _ g 47 (vH z5).toArray (0, 0) _ rfl hrow Try.underlying47 rfl hi47 _ _ rfl rfl) rfl ?_
      exact ⟨.slice none 0 0, by rw [hF.out]; rfl, by rw [hF.out]; exact World.ownsRow_nil _ _ _ _, hXr.out⟩
  · have hF : hdF D = (((openF D).1 : Int), z5, []) := by unfold hdF; rw [if_pos (by omega)]
    have he0 : ((openF D).1 : Int) ≠ 0 := by omega
    obtain ⟨er, hee⟩ : ∃ x, ((openF D).1 : Int) = x := ⟨_, rfl⟩
    rw [hee] at he0 hF ⊢
    have e1 : (er != 0) = true := by simp [he0]
    have e2 : (er == 0) = false := by simp [he0]
    clear he
    replace hF := hidden hF
    have hr2 : w1.heap[g]? = some (.cells (vH z5).toArray 47 (0, 0)) := hB2
    have hrow := setRow_heap w1 g _ (vH z5).toArray 47 _ hr2
    have hXr : Ext w (w1.setRow g (vH z5).toArray) := below_setRow (hX2) (by rw [hg.out]; exact Nat.le_refl _) _
    replace hXr := hidden hXr
    go_upto_region 3 with fail
    go_wp2_with (refine wpList_store_row rfl 47 (.tmp 2) (.tmp 19) rfl g (vH z5).toArray rfl rfl 47 _ hr2 hi47 rfl (by simp [vH, Value.oneCell']) ?_)
    refine bodyPost_ret (results_row3 (p := 2) (a := 3) (b := 4) (ty := 47) (by kernel_rfl) _ _ g 47 (vH z5).toArray (0, 0) _ rfl hrow Try.underlying47 rfl hi47 _ _ rfl rfl) rfl ?_
    exact ⟨.slice none 0 0, by rw [hF.out]; rfl, by rw [hF.out]; exact World.ownsRow_nil _ _ _ _, hXr.out⟩
end Go.Proofs.Ytpfelklhejpnnaa
