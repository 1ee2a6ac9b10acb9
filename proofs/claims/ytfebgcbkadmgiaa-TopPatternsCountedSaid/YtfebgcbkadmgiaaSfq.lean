/- Layer 33: walk: an iterator over the rows before primary. -/
import Derived.Test.YtfebgcbkadmgiaaSfp
namespace Go.Proofs.Ytfebgcbkadmgiaa
open Go.RowKit Go.Shelf
set_option linter.unusedVariables false
attribute [local go_sem] Oper.semAt_some

/-- Cells that lie as they lay, but for some blocks. -/
def KeepT (T : List Nat) (A B : World) : Prop := (∀ x, x ∉ T → ∀ o, A.heap[x]? = some o → o.isCells = true → B.heap[x]? = some o) ∧ A.heap.size ≤ B.heap.size
theorem KeepT.refl (T : List Nat) (A : World) : KeepT T A A := ⟨fun _ _ _ h _ => h, Nat.le_refl _⟩
theorem keepT_t {T : List Nat} {A B C : World} (h : KeepT T A B) (k : KeepT T B C) : KeepT T A C := ⟨fun x hx o ho hc => k.1 x hx o (h.1 x hx o ho hc) hc, by have := h.2; have := k.2; omega⟩
theorem keepT_b {T : List Nat} (W : World) (l : Nat) (o o' : Obj) (h1 : W.heap[l]? = some o) (h2 : o.isCells = false) : KeepT T W (W.putObj l o') :=
  ⟨fun x hx o2 ho hc => by
    rw [World.putObj_heap_other (fun e => by subst e; rw [h1] at ho; cases ho; rw [h2] at hc; cases hc)]
    exact ho, by simp⟩
theorem KeepT.of_ext {T : List Nat} {A B : World} (h : Ext A B) : KeepT T A B := by
  have h' : Below A.heap.size A B := h
  exact ⟨fun x hx o ho hc => by rw [h'.block x (Array.getElem?_eq_some_iff.1 ho).1]; exact ho, h'.size⟩
theorem KeepT.of_chg {T S : List Nat} {A B : World} (h : Chg S A B) (hS : ∀ x ∈ S, x ∈ T) : KeepT T A B :=
  ⟨fun x hx o ho hc => by rw [h.block x (Array.getElem?_eq_some_iff.1 ho).1 (fun hm => hx (hS x hm))]; exact ho, h.size⟩
theorem Blk.keepT {T : List Nat} {w w' : World} {b : Nat} {t : TypeId} {cs : List Value} (h : Blk w b t cs) (k : KeepT T w w') (hb : b ∉ T) : Blk w' b t cs := k.1 b hb _ h rfl

def encW {n : Nat} (ro : Nat → Nat) (x : Fin n) : Array Value := #[.int .i64 (ro x.val : Int)]
theorem walk_any (v : Value) (pr : Int) (w : World) (ad : Option Addr) (n cap : Nat) (hv : v = .slice ad n cap) :
    Calls Try.prog 37 #[.agg #[v, .int .i64 pr]] w fun e w' =>
      e = .returned (.func (.func 56) #[] #[.pointer (some ⟨w.heap.size, 0, none⟩)]) ∧ w' = w.alloc (.cells #[v, .int .i64 pr] 46) := by
  subst hv
  go_enter Try.func37, Try.ntmps37
  go_wp2_with fail
  go_ret
  exact ⟨rfl, rfl⟩

/-- The rows that the links lead through, from row 0 to primary. -/
structure Way (D : List Int) (pr n : Nat) (ro : Nat → Nat) : Prop where
  zero : ro 0 = 0
  last : ro n = pr
  le : ∀ k, k ≤ n → ro k ≤ n
  ne : ∀ k, k < n → ro k ≠ pr
  step : ∀ k, k < n → (lkF (n := n) D pr (List.finRange n)).1.getD (ro k) 0 = (ro (k + 1) : Int)
  inj : ∀ j k, j ≤ n → k ≤ n → ro j = ro k → j = k
def ixR (ro : Nat → Nat) (n v : Nat) : Nat := (List.range (n + 1)).findIdx fun k => decide (ro k = v)
theorem ixR_ro {D : List Int} {pr n : Nat} {ro : Nat → Nat} (h : Way D pr n ro) {k : Nat} (hk : k ≤ n) : ixR ro n (ro k) = k := by
  unfold ixR
  obtain ⟨q, hq⟩ : ∃ q, (List.range (n + 1)).findIdx (fun j => decide (ro j = ro k)) = q := ⟨_, rfl⟩
  have h3 : q < (List.range (n + 1)).length := by rw [← hq]; exact List.findIdx_lt_length_of_exists ⟨k, List.mem_range.2 (by omega), by simp⟩
  have h1 : decide (ro ((List.range (n + 1))[q]) = ro k) = true := by
    subst hq
    exact List.findIdx_getElem (w := h3)
  rw [hq]
  rw [decide_eq_true_eq, List.getElem_range] at h1
  rw [List.length_range] at h3
  exact h.inj _ _ (by omega) hk h1

set_option maxRecDepth 100000 in
set_option maxHeartbeats 2000000 in
theorem walk1_in (m : Nat) (hm : 2 ≤ m) (l B0 pr n cap : Nat) (ad : Option Addr) (D : List Int) (hb : Bytes D) (hDn : D.length = n) (hn : n ≤ 1000) (hpr : pr ≤ n) (ro : Nat → Nat) (hway : Way D pr n ro) (T : List Nat) (hT0 : B0 ∉ T)
    (J Jx : List (Fin n) → World → Prop) (W : World) (hJ : AbidesFrom W.heap.size J) (hlt : ∀ z ∈ T, z < W.heap.size)
    (hY : ∀ pre z W1, J pre W1 → pre.length < n → YieldAt Fence.wide (m - 1) Try.prog l (encW ro z) W1 fun e W' =>
      (e = .returned (.bool true) ∧ J (pre ++ [z]) W' ∧ KeepT T W1 W') ∨ (e = .returned (.bool false) ∧ Jx (pre ++ [z]) W'))
    (b0 : Blk W B0 46 [.slice ad n cap, .int .i64 (pr : Int)]) (hR : Rd W 1 (.slice ad n cap) n (bs D)) (h0 : J [] W) :
    CallsIn Fence.wide m Try.prog 56 #[.func (.yield l) #[] #[], .pointer (some ⟨B0, 0, none⟩)] W fun e W' => (∃ v, e = .returned v) ∧
      ((∃ ys, ys = List.finRange n ∧ J ys W') ∨ (∃ pre, (∃ k, k ≤ n ∧ pre = upF n k) ∧ Jx pre W')) := by
  have hlk := links_any (.slice ad n cap) D pr n hb hDn hn hpr W (by unfold Rd8; rw [hDn]; exact hR)
  obtain ⟨L, hL⟩ : ∃ L, (lkF (n := n) D pr (List.finRange n)).1 = L := ⟨_, rfl⟩
  have hLl : L.length = n + 1 := by rw [← hL]; exact (lkF_len D pr _).1
  have hst := hway.step
  rw [hL] at hlk hst
  replace hst := hidden hst
  replace hlk := hidden hlk
  replace hLl := hidden hLl
  refine callsIn_of_wp Try.func56 rfl trivial ?_ rfl
  simp only [Try.ntmps56, List.size_toArray, List.length_cons, List.length_nil, Nat.reduceAdd, Nat.reduceSub, Array.replicate_succ, Array.replicate_zero, List.push_toArray, List.append_toArray, List.nil_append, List.cons_append]
  have c0 := b0.cell 0 _ rfl
  have c1 := b0.cell 1 _ rfl
  have hm1 : 1 ≤ m := by omega
  have hm2 : 1 ≤ m - 1 := by omega
  clear hL hDn
  gi_wp2_with (refine ⟨trivial, ?_⟩; gi_at_call 57; refine (callsIn_wide.2 hlk.out).mono ?_; clear hlk; rintro e w1 ⟨g, rfl, hG, hgs, hX⟩)
  have hgT : g ∉ T := fun h => by have := hlt g h; omega
  have b1 := b0.ext hX
  have hJ1 : J [] w1 := hJ [] W w1 none h0 (Ext.grown hX) (fun r e => by cases e)
  replace hJ1 := hidden hJ1
  have hz := hway.zero
  replace hz := hidden hz
  have hX1 := hX.size
  clear c0 c1 h0 b0 hR
  gi_loopw [4] (fun i wr => ∃ k : Nat, k ≤ n ∧ i = .int .i64 (ro k : Int) ∧ Hid (J (upF n k) wr) ∧ KeepT T w1 wr)
    (fun i _ => n - ixR ro n (intOf i).toNat)
  case atStart => exact ⟨0, Nat.zero_le _, by rw [hz.out]; rfl, hJ1, KeepT.refl _ _⟩
  case round =>
    clear hJ1
    obtain ⟨k, hk, rfl, hJs, hK⟩ := hrel
    have d1 := (b1.keepT hK hT0).cell 1 _ rfl
    by_cases hlt' : k < n
    · have hGk := hG.keepT hK hgT
      have hrl := hway.le k hk
      have hne : ¬ (ro k : Int) = (pr : Int) := fun e => hway.ne k hlt' (by omega)
      have hst1 := hst.out k hlt'
      have hcell : ∀ W2, KeepT T wr W2 → W2.cell? ⟨g, ro k, none⟩ = some (.int .i64 (ro (k + 1) : Int)) := fun W2 h2 => by
        have := (hGk.keepT h2 hgT).cell (ro k) _ (iv_get L (ro k) (by rw [hLl.out]; omega))
        rw [hst1] at this
        exact this
      have hix := ixR_ro hway hk
      have hix1 := ixR_ro hway (k := k + 1) (by omega)
      have r1 : (ro k : Int) < (n : Int) + 1 := by omega
      obtain ⟨fn, tmps, assign, body, hy, hR'⟩ := hY _ ⟨k, hlt'⟩ wr hJs.out (by rw [upF_len hk]; exact hlt')
      unfold encW at hy
      dsimp only at hy
      have key : ∀ (e : Ending) (W' : World), (e = .returned (.bool true) ∧ J (upF n k ++ [⟨k, hlt'⟩]) W' ∧ KeepT T wr W' ∨ e = .returned (.bool false) ∧ Jx (upF n k ++ [⟨k, hlt'⟩]) W') →
          (e = .returned (.bool true) ∧ Hid (J (upF n (k + 1)) W' ∧ KeepT T w1 W' ∧ KeepT T wr W')) ∨ (e = .returned (.bool false) ∧ Hid (Jx (upF n (k + 1)) W')) := by
        intro e W' h
        rw [upF_succ hlt']
        rcases h with ⟨h1, h2, h3⟩ | ⟨h1, h2⟩
        · exact Or.inl ⟨h1, h2, keepT_t hK h3, h3⟩
        · exact Or.inr ⟨h1, h2⟩
      replace key := hidden key
      replace hK := hidden hK
      replace hcell := hidden hcell
      obtain ⟨r, hr⟩ : ∃ r, ro k = r := ⟨_, rfl⟩
      obtain ⟨r2, hr2⟩ : ∃ r, ro (k + 1) = r := ⟨_, rfl⟩
      rw [hr, hr2] at hcell
      rw [hr] at hix hrl hne r1 hy ⊢
      rw [hr2] at hix1
      clear hst1 hGk hr
      replace hr2 := hidden hr2
      replace hix := hidden hix
      replace hix1 := hidden hix1
      gi_wp2
      refine hR'.mono ?_
      intro e W3 h3
      rcases key.out e W3 h3 with ⟨rfl, h4⟩ | ⟨rfl, h4⟩
      · have hc := hcell.out W3 h4.out.2.2
        gi_wp2
        go_roundw
        case rel => exact ⟨k + 1, by omega, by rw [hr2.out], hidden h4.out.1, h4.out.2.1⟩
        case measure => simp only [intOf, Int.toNat_natCast]; rw [hix.out, hix1.out]; omega
      · gi_wp2
        refine ⟨rfl, _, results_none rfl _ _ _, ?_⟩
        exact ⟨⟨_, rfl⟩, .inr ⟨_, ⟨k + 1, by omega, rfl⟩, h4.out⟩⟩
    · have k2 : k = n := by omega
      have hJn : J (List.finRange n) wr := by rw [← upF_all]; rw [k2] at hJs; exact hJs.out
      have hrn : (ro k : Int) = (pr : Int) := by rw [k2, hway.last]
      rw [hrn]
      replace k2 := hidden k2
      clear hrn
      refine wpIn_wide.2 ?_
      go_wp2_with fail
      refine ⟨rfl, _, results_none rfl _ _ _, ?_⟩
      exact ⟨⟨_, rfl⟩, .inl ⟨_, rfl, hJn⟩⟩
theorem walk_stops (m : Nat) (hm : 2 ≤ m) (B0 pr n cap : Nat) (ad : Option Addr) (D : List Int) (hb : Bytes D) (hDn : D.length = n) (hn : n ≤ 1000) (hpr : pr ≤ n) (ro : Nat → Nat) (hway : Way D pr n ro) (T : List Nat) (hT0 : B0 ∉ T)
    (w : World) (hlt : ∀ z ∈ T, z < w.heap.size) (b0 : Blk w B0 46 [.slice ad n cap, .int .i64 (pr : Int)]) (hR : Rd w 1 (.slice ad n cap) n (bs D)) :
    SeqStopsK Fence.wide m Try.prog 56 #[.pointer (some ⟨B0, 0, none⟩)] (encW (n := n) ro) (KeepT T) (fun ys => ys = List.finRange n) (fun pre => ∃ k, k ≤ n ∧ pre = upF n k) n w :=
  fun l J Jx W hW hJ hJx hY h0 =>
    have hE : Ext w W := hW
    walk1_in m hm l B0 pr n cap ad D hb hDn hn hpr ro hway T hT0 J Jx W hJ (fun z hz => Nat.lt_of_lt_of_le (hlt z hz) hE.size) hY (b0.ext hE) (Rd.ext hR hE) h0
end Go.Proofs.Ytfebgcbkadmgiaa
