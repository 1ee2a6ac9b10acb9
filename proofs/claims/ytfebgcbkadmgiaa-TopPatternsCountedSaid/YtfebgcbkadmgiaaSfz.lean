/- slices.Backward of bytes: an iterator; layer 33: Count: plain. -/
import Derived.Test.YtfebgcbkadmgiaaSfy
namespace Go.Proofs.Ytfebgcbkadmgiaa
open Go.RowKit Go.Shelf
set_option linter.unusedVariables false
attribute [local go_sem] Oper.semAt_some

def encB {n : Nat} (D : List Int) (x : Fin n) : Array Value := #[.int .i64 ((n - 1 - x.val : Nat) : Int), .int .u8 (D.getD (n - 1 - x.val) 0)]
theorem backward_any (v : Value) (w : World) (ad : Option Addr) (n cap : Nat) (hv : v = .slice ad n cap) :
    Calls Try.prog 31 #[v] w fun e w' =>
      e = .returned (.func (.func 42) #[] #[.pointer (some ⟨w.heap.size, 0, none⟩)]) ∧ w' = w.alloc (.cells #[v] 22) := by
  subst hv
  go_enter Try.func31, Try.ntmps31
  go_wp2_with fail
  go_ret
  exact ⟨rfl, rfl⟩
set_option maxRecDepth 100000 in
set_option maxHeartbeats 2000000 in
theorem backward1_in (m : Nat) (hm : 2 ≤ m) (l B0 n cap : Nat) (ad : Option Addr) (D : List Int) (hDn : D.length = n) (hn : n ≤ 1000) (S : List Nat) (hS0 : B0 ∈ S) (hSv : 0 < n → ∀ g, (Value.slice ad n cap).ownBlock = some g → g ∈ S)
    (J Jx : List (Fin n) → World → Prop) (W : World) (hJ : AbidesFrom W.heap.size J) (hlt : ∀ z ∈ S, z < W.heap.size)
    (hY : ∀ pre z W1, J pre W1 → pre.length < n → YieldAt Fence.wide (m - 1) Try.prog l (encB D z) W1 fun e W' =>
      (e = .returned (.bool true) ∧ J (pre ++ [z]) W' ∧ (KeepS S W1 W' ∧ W1.heap.size ≤ W'.heap.size)) ∨ (e = .returned (.bool false) ∧ Jx (pre ++ [z]) W'))
    (b0 : Blk W B0 22 [.slice ad n cap]) (hR : Rd W 1 (.slice ad n cap) n (bs D)) (h0 : J [] W) :
    CallsIn Fence.wide m Try.prog 42 #[.func (.yield l) #[] #[], .pointer (some ⟨B0, 0, none⟩)] W fun e W' => (∃ v, e = .returned v) ∧
      ((∃ ys, ys = List.finRange n ∧ J ys W') ∨ (∃ pre, (∃ k, k ≤ n ∧ pre = upF n k) ∧ Jx pre W')) := by
  refine callsIn_of_wp Try.func42 rfl trivial ?_ rfl
  simp only [Try.ntmps42, List.size_toArray, List.length_cons, List.length_nil, Nat.reduceAdd, Nat.reduceSub, Array.replicate_succ, Array.replicate_zero, List.push_toArray, List.append_toArray, List.nil_append, List.cons_append]
  have c0 := b0.cell 0 _ rfl
  have hm1 : 1 ≤ m := by omega
  have hm2 : 1 ≤ m - 1 := by omega
  have hv0 : IntKind.i64.wrap ((n : Int) - 1) = (n : Int) - 1 := IntWalk.i64_in _ (by omega)
  replace hDn := hidden hDn
  gi_wp2
  clear c0
  gi_loopw [3] (fun i wr => ∃ k : Nat, k ≤ n ∧ i = .int .i64 ((n : Int) - 1 - (k : Int)) ∧ J (upF n k) wr ∧ KeepS S W wr ∧ W.heap.size ≤ wr.heap.size)
    (fun i _ => (intOf i + 1).toNat)
  case atStart => exact ⟨0, Nat.zero_le _, by simp, h0, KeepS.refl _ _, Nat.le_refl _⟩
  case round =>
    obtain ⟨k, hk, rfl, hJs, hK, hsz⟩ := hrel
    have d1 := (b0.keep hK hS0).cell 0 _ rfl
    by_cases hlt' : k < n
    · obtain ⟨q, hq⟩ : ∃ q : Nat, n - 1 - k = q := ⟨_, rfl⟩
      have eq : (n : Int) - 1 - (k : Int) = (q : Int) := by omega
      have v1 : IntKind.i64.wrap ((q : Int) - 1) = (q : Int) - 1 := IntWalk.i64_in _ (by omega)
      have hqn : q < n := by omega
      have k1 : (q : Int) < (n : Int) := by omega
      have hRk := hR.keep hK hSv hsz
      obtain ⟨bb, off, rfl, -, hcell⟩ := hRk.cells (by omega)
      have cB := hcell q (by rw [bs_len, hDn.out]; exact hqn)
      rw [bs_get _ _ (by rw [hDn.out]; exact hqn)] at cB
      clear hcell hRk
      obtain ⟨fn, tmps, assign, body, hy, hR'⟩ := hY _ ⟨k, hlt'⟩ wr hJs (by rw [upF_len hk]; exact hlt')
      unfold encB at hy
      dsimp only at hy
      rw [hq] at hy
      obtain ⟨y, hye⟩ : ∃ y, D.getD q 0 = y := ⟨_, rfl⟩
      rw [hye] at hy cB
      replace hye := hidden hye
      have key : ∀ (e : Ending) (W' : World), (e = .returned (.bool true) ∧ J (upF n k ++ [⟨k, hlt'⟩]) W' ∧ KeepS S wr W' ∧ wr.heap.size ≤ W'.heap.size ∨ e = .returned (.bool false) ∧ Jx (upF n k ++ [⟨k, hlt'⟩]) W') →
          (e = .returned (.bool true) ∧ Hid (J (upF n (k + 1)) W' ∧ KeepS S W W' ∧ W.heap.size ≤ W'.heap.size)) ∨ (e = .returned (.bool false) ∧ Hid (Jx (upF n (k + 1)) W')) := by
        intro e W' h
        rw [upF_succ hlt']
        rcases h with ⟨h1, h2, h3, h4⟩ | ⟨h1, h2⟩
        · exact Or.inl ⟨h1, h2, hK.trans h3, by omega⟩
        · exact Or.inr ⟨h1, h2⟩
      have e2 : Hid ((q : Int) - 1 = (n : Int) - 1 - ((k + 1 : Nat) : Int)) := hidden (by omega)
      rw [eq]
      replace key := hidden key
      replace hK := hidden hK
      clear eq hq
      gi_wp2
      refine hR'.mono ?_
      intro e W3 h3
      rcases key.out e W3 h3 with ⟨rfl, h4⟩ | ⟨rfl, h4⟩
      · gi_wp2
        go_roundw
        case rel => exact ⟨k + 1, by omega, by rw [← e2.out], h4.out.1, h4.out.2.1, h4.out.2.2⟩
        case measure => simp [intOf]
      · gi_wp2
        refine ⟨rfl, _, results_none rfl _ _ _, ?_⟩
        exact ⟨⟨_, rfl⟩, .inr ⟨_, ⟨k + 1, by omega, rfl⟩, h4.out⟩⟩
    · have k2 : k = n := by omega
      have k1 : decide (0 ≤ (n : Int) - 1 - (k : Int)) = false := decide_eq_false (by omega)
      have hJn : J (List.finRange n) wr := by rw [← upF_all]; rw [k2] at hJs; exact hJs
      have e2 : (n : Int) - 1 - (k : Int) = -1 := by omega
      rw [e2]
      replace k2 := hidden k2
      clear e2 k1
      refine wpIn_wide.2 ?_
      go_wp2_with fail
      refine ⟨rfl, _, results_none rfl _ _ _, ?_⟩
      exact ⟨⟨_, rfl⟩, .inl ⟨_, rfl, hJn⟩⟩
theorem backward_stops (m : Nat) (hm : 2 ≤ m) (B0 n cap : Nat) (ad : Option Addr) (D : List Int) (hDn : D.length = n) (hn : n ≤ 1000) (S : List Nat) (hS0 : B0 ∈ S) (hSv : 0 < n → ∀ g, (Value.slice ad n cap).ownBlock = some g → g ∈ S)
    (w : World) (hlt : ∀ z ∈ S, z < w.heap.size) (b0 : Blk w B0 22 [.slice ad n cap]) (hR : Rd w 1 (.slice ad n cap) n (bs D)) :
    SeqStopsK Fence.wide m Try.prog 42 #[.pointer (some ⟨B0, 0, none⟩)] (encB (n := n) D) (fun A B => KeepS S A B ∧ A.heap.size ≤ B.heap.size) (fun ys => ys = List.finRange n) (fun pre => ∃ k, k ≤ n ∧ pre = upF n k) n w :=
  fun l J Jx W hW hJ hJx hY h0 =>
    have hE : Ext w W := hW
    backward1_in m hm l B0 n cap ad D hDn hn S hS0 hSv J Jx W hJ (fun z hz => Nat.lt_of_lt_of_le (hlt z hz) hE.size) hY (b0.ext hE) (Rd.ext hR hE) h0
end Go.Proofs.Ytfebgcbkadmgiaa
