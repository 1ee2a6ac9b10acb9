/- Layer 18: the reader begins, and reads the whole. -/
import Derived.Test.YtcnbljohhajkhaaWc
import Derived.Test.YtcnbljohhajkhaaWd
import Derived.Test.YtcnbljohhajkhaaVg
import Derived.Deep.QuietTactic
import Derived.BigQuiet
import Derived.StillTailTactics
namespace Go.Proofs.Ytcnbljohhajkhaa
open Go.RowKit
set_option linter.unusedVariables false
set_option linter.unusedSimpArgs false
attribute [local go_sem ↓] Go.wp_at_zero Go.wp_at_succ

set_option maxRecDepth 100000 in
theorem begin_any (v : Value) (C : List (Int × Int)) (w : World) (h : Code18 w v C) (hl : C.length ≤ 1024) :
    Calls Try.prog 28 #[v] w fun x w' => ∃ br vp, x = .returned (.pointer (some ⟨br, 0, none⟩)) ∧ w.heap.size ≤ br ∧ Ext w w' ∧ St w' w.heap.size br v C vp 0 (List.replicate C.length (-1)) none := by
  obtain ⟨n, hn⟩ : ∃ n, C.length = n := ⟨_, rfl⟩
  obtain ⟨ad, cap, rfl, hcap, -⟩ := Rd.shape h
  have hoff := fun (hn0 : 0 < C.length) (k : Nat) (hk : (Value.slice ad C.length cap).ownBlock = some k) => Rd.blk_lt h hn0 hk
  rw [hn] at hl hcap hoff ⊢
  have h' := hidden h
  have hd1 := hidden demand_true
  have hrep := fun b c W hc => rep_any b c n W hc hl
  replace hrep := hidden hrep
  replace hn := hidden hn
  replace hoff := hidden hoff
  have hld : decide ((n : Int) ≤ 1024) = true := by simp; omega
  clear h
  go_enter Try.func28, Try.ntmps28
  go_wp2_with fail
  refine (hd1.out _ _ _).mono ?_
  rintro e w1 ⟨rfl, hw1⟩
  rw [hw1]
  clear hw1
  have B0 := Blk.new w [.int .i64 (-1)] 3
  have c0 := B0.cell 0 _ rfl
  go_wp2_with fail
  refine (hrep.out _ _ _ c0).mono ?_
  rintro e w2 ⟨vp, rfl, hO, hX⟩
  have hX2 := ((Ext.refl w).alloc _).trans hX
  unfold OwnI at hO
  rw [List.length_replicate] at hO
  obtain ⟨va, vpc, rfl, -⟩ := own_shape hO
  go_wp2_with fail
  go_ret
  have B1 := Blk.new w2 [.slice ad n cap, .int .i64 0, .slice va n vpc] 64
  have hs1 : w.heap.size + 1 ≤ w2.heap.size := by have := hX.size; simpa using this
  have hvb : ∀ k, (Value.slice va n vpc).ownBlock = some k → w.heap.size ≤ k ∧ k < w2.heap.size := fun k hk => by
    have := own_lt hO hk
    simp at this
    omega
  refine ⟨w2.heap.size, _, rfl, by omega, hX2.alloc _, B1, ?_, by rw [hn.out]; exact hoff.out, ?_, by rw [List.length_replicate, hn.out], trivial, ?_, ?_⟩
  · have := h'.out
    rw [hn.out] at this
    exact this.ext (hX2.alloc _)
  · unfold OwnI
    rw [List.length_replicate]
    exact own_mono (own_ext hO ((Ext.refl w2).alloc _)) (by simp)
  · simp only [SS, lqS, List.append_nil, List.nodup_cons, Option.mem_toList]
    refine ⟨fun hm => by have := hvb _ hm; omega, ?_⟩
    cases (Value.slice va n vpc).ownBlock <;> simp
  · intro x hx
    simp only [SS, lqS, List.append_nil, List.mem_cons, Option.mem_toList] at hx
    rcases hx with rfl | hx
    · omega
    · exact (hvb _ hx).1

theorem begin_err (v : Value) (C : List (Int × Int)) (w : World) (h : Code18 w v C) (hl : ¬ C.length ≤ 1024) :
    Calls Try.prog 28 #[v] w fun x w' => x = fail 0 6 ∧ w' = w := by
  obtain ⟨ad, cap, rfl, hcap, -⟩ := Rd.shape h
  have hd0 := hidden demand_false
  obtain ⟨n, hn⟩ : ∃ n, C.length = n := ⟨_, rfl⟩
  rw [hn] at hl ⊢
  have hld : decide ((n : Int) ≤ 1024) = false := by simp; omega
  clear h hcap hn
  go_enter Try.func28, Try.ntmps28
  go_wp2_with fail
  refine (hd0.out _ _ _).mono ?_
  rintro e w1 ⟨rfl, hw1⟩
  rw [hw1]
  unfold fail
  go_wp2_with fail
  exact ⟨rfl, rfl, rfl⟩

def WholeP (w : World) (B br : Nat) (vc : Value) (C : List (Int × Int)) (vp : Value) (x : Ending) (w' : World) : Prop :=
  match wholeF C with
  | .error e => x = fail e 15 ∧ Chg (SS br vp none) w w'
  | .ok (t, P) => ∃ v cs, x = .returned v ∧ w'.ownsRow w.heap.size 47 5 v t.len cs ∧ (∀ k ∈ SS br vp none, v.ownBlock ≠ some k) ∧
      Fr w' (fun k => w.heap.size ≤ k ∧ k ∉ SS br vp none ∧ v.ownBlock ≠ some k) t cs ∧ St w' B br vc C vp C.length P none ∧ Chg (SS br vp none) w w'
set_option maxRecDepth 100000 in
theorem whole_any (hL : ∀ C f, ListOK C f) (w : World) (B br : Nat) (vc : Value) (C : List (Int × Int)) (vp : Value) (hS : St w B br vc C vp 0 (List.replicate C.length (-1)) none) (hB : B ≤ w.heap.size) (hl : C.length ≤ 1024) :
    Calls Try.prog 29 #[.pointer (some ⟨br, 0, none⟩)] w (WholeP w B br vc C vp) := by
  have hcall := hL C (C.length + 1) w B br vc vp 0 0 none _ hS hB hl (Nat.zero_le _) (by omega) (by omega) (by simp [lqL])
  obtain ⟨n, hn⟩ : ∃ n, C.length = n := ⟨_, rfl⟩
  obtain ⟨ac, cc, hvc, hcc, -⟩ := hS.code.shape
  rw [hn] at hvc hl
  subst hvc
  have hd0 := hidden demand_false
  have hd1 := hidden demand_true
  have hRw : Hid (wholeF C = match lstF C (C.length + 1) 0 0 false .nil (List.replicate C.length (-1)) [] with
    | .error e => .error e
    | .ok (t, j, P, _) => if j = C.length then .ok (t, P) else .error j) := rfl
  replace hcall := hidden hcall
  replace hS := hidden hS
  replace hn := hidden hn
  go_enter Try.func29, Try.ntmps29
  go_wp2_with fail
  refine hcall.out.mono ?_
  clear hcall
  rintro e w1 hP
  unfold LstPost at hP
  rw [show (none : LQ).isSome = false from rfl, show lqL none = [] from rfl] at hP
  cases hlk : lstF C (C.length + 1) 0 0 false .nil (List.replicate C.length (-1)) [] with
  | error er =>
    rw [hlk] at hP hRw
    obtain ⟨rfl, hX⟩ := hP
    replace hX := hidden hX
    replace hlk := hidden hlk
    unfold fail
    go_wp2_with fail
    refine ⟨rfl, ?_⟩
    unfold WholeP
    rw [hRw.out]
    exact ⟨rfl, hX.out⟩
  | ok r =>
    rw [hlk] at hP hRw
    obtain ⟨t, j, P, lv⟩ := r
    obtain ⟨v, cs, q', rfl, hO, hoff, hF, hS2, -, hto, hX⟩ := hP
    obtain rfl : q' = none := hto
    obtain ⟨va, vcp, rfl, -⟩ := own_shape hO
    have hB2 := hS2.rd
    have c0 := hB2.cell 0 _ rfl
    have c1 := hB2.cell 1 _ rfl
    have hge := lst_ge C _ _ _ _ _ _ _ _ (Nat.zero_le _) hlk
    simp only at hge
    rw [hn.out] at hge
    have hjn := hge.2.1
    clear hge hB2
    replace hlk := hidden hlk
    replace hX := hidden hX
    replace hO := hidden hO
    replace hF := hidden hF
    replace hS2 := hidden hS2
    replace hoff := hidden hoff
    by_cases hj : j = n
    · have hj' : ((j : Int) == (n : Int)) = true := by simp; omega
      go_upto_region 2 with fail
      go_still_tail 14, (by kernel_rfl)
      change wpList _ _ _ _ _ w1.drew
      go_wp2_with fail
      refine (hd1.out _ _ _).mono ?_
      rintro e w9 ⟨rfl, hw9⟩
      rw [hw9]
      go_wp2_with fail
      go_ret
      unfold WholeP
      rw [hRw.out]
      simp only
      rw [if_pos (by rw [hn.out]; exact hj)]
      have XE := (Ext.refl w1).drew
      refine ⟨_, cs, rfl, own_ext hO.out XE, hoff.out, hF.out.ext XE (fun _ _ h => h), ?_, hX.out.drew⟩
      have := hS2.out.ext XE
      rw [hj] at this
      rw [hn.out]
      exact this
    · have hj' : ((j : Int) == (n : Int)) = false := by simp; omega
      go_upto_region 2 with fail
      go_still_tail 14, (by kernel_rfl)
      change wpList _ _ _ _ _ w1.drew
      go_wp2_with fail
      refine (hd0.out _ _ _).mono ?_
      rintro e w9 ⟨rfl, hw9⟩
      rw [hw9]
      unfold fail
      go_wp2_with fail
      refine ⟨rfl, ?_⟩
      unfold WholeP
      rw [hRw.out]
      rw [if_neg (by rw [hn.out]; exact hj)]
      exact ⟨rfl, hX.out.drew⟩
end Go.Proofs.Ytcnbljohhajkhaa
