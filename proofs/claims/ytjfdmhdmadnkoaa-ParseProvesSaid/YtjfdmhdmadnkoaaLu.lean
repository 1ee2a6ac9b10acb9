/- Layer 35: copies, an iterator over distances and lengths. -/
import Derived.Test.YtjfdmhdmadnkoaaLq
import Derived.Test.YtjfdmhdmadnkoaaBj
import Derived.Sort.CutIn
import Derived.ControlIn
import Derived.Test.YtjfdmhdmadnkoaaLp
namespace Go.Proofs.Ytjfdmhdmadnkoaa
open Go.RowKit Go.Shelf
set_option linter.unusedVariables false
attribute [local go_sem] Oper.semAt_some

theorem copies_in (ad : Option Addr) (m c : Nat) (x : Int) (w : World) :
    Calls Try.prog 59 #[.slice ad m c, .int .i64 x] w fun e w' =>
      e = .returned (.func (.func 65) #[] #[.pointer (some ⟨w.heap.size, 0, none⟩), .pointer (some ⟨w.heap.size + 1, 0, none⟩)]) ∧
      w' = (w.alloc (.cells #[.slice ad m c] 22)).alloc (.cells #[.int .i64 x] 3) := by
  go_enter Try.func59, Try.ntmps59
  go_wp2_with fail
  go_ret
  exact ⟨rfl, rfl⟩

theorem cmn_step {D : List Int} {d a k M : Nat} (hk : k < M) (h : D.getD (a + k) 0 = D.getD (a + k - d) 0) : k + cmn D d (a + k) (M - k) = k + 1 + cmn D d (a + (k + 1)) (M - (k + 1)) := by
  obtain ⟨j, hj⟩ : ∃ j, M - k = j + 1 := ⟨M - k - 1, by omega⟩
  rw [hj, show M - (k + 1) = j by omega, cmn, if_pos h, Nat.add_assoc a k 1]
  omega
theorem cmn_stop {D : List Int} {d a k M : Nat} (hk : k < M) (h : D.getD (a + k) 0 ≠ D.getD (a + k - d) 0) : k + cmn D d (a + k) (M - k) = k := by
  obtain ⟨j, hj⟩ : ∃ j, M - k = j + 1 := ⟨M - k - 1, by omega⟩
  rw [hj, cmn, if_neg h, Nat.add_zero]

set_option maxRecDepth 100000 in
set_option maxHeartbeats 2000000 in
theorem copies1_in (n : Nat) (hn : 2 ≤ n) (l B1 B2 a : Nat) (v : Value) (D : List Int) (hb : Bytes D) (ha : a < D.length) (hl : D.length ≤ 65536) (S : List Nat) (hS1 : B1 ∈ S) (hS2 : B2 ∈ S) (hSv : 0 < D.length → ∀ g, v.ownBlock = some g → g ∈ S)
    (J Jx : List (Nat × Nat) → World → Prop) (W : World) (hJ : AbidesFrom W.heap.size J) (hlt : ∀ z ∈ S, z < W.heap.size)
    (hY : ∀ pre z W1, J pre W1 → pre.length < min 4096 a → YieldAt Fence.wide (n - 1) Try.prog l #[.int .i64 ((z : Nat × Nat).1 : Int), .int .i64 (z.2 : Int)] W1 fun e W' =>
      (e = .returned (.bool true) ∧ J (pre ++ [z]) W' ∧ (KeepS S W1 W' ∧ W1.heap.size ≤ W'.heap.size)) ∨ (e = .returned (.bool false) ∧ Jx (pre ++ [z]) W'))
    (b1 : Blk W B1 22 [v]) (b2 : Blk W B2 3 [.int .i64 (a : Int)]) (hR : Rd8 W v D) (h0 : J [] W) :
    CallsIn Fence.wide n Try.prog 65 #[.func (.yield l) #[] #[], .pointer (some ⟨B1, 0, none⟩), .pointer (some ⟨B2, 0, none⟩)] W fun e W' => (∃ v, e = .returned v) ∧
      ((∃ ys, ys = cps D a (min 4096 a) ∧ J ys W') ∨ (∃ pre, (∃ k, k ≤ min 4096 a ∧ pre = cps D a k) ∧ Jx pre W')) := by
  refine callsIn_of_wp Try.func65 rfl trivial ?_ rfl
  simp only [Try.ntmps65, List.size_toArray, List.length_cons, List.length_nil, Nat.reduceAdd, Nat.reduceSub, Array.replicate_succ, Array.replicate_zero, List.push_toArray, List.append_toArray, List.nil_append, List.cons_append]
  obtain ⟨ad, cap, rfl, q1, q2, q3⟩ := Rd.shape hR
  obtain ⟨bb, off, hab, -, -⟩ := Rd.cells hR (by omega)
  subst hab
  have c1 := b1.cell 0 _ rfl
  have c2 := b2.cell 0 _ rfl
  have hn1 : 1 ≤ n := by omega
  have hn2 : 1 ≤ n - 1 := by omega
  obtain ⟨m, hm⟩ : ∃ m, D.length = m := ⟨_, rfl⟩
  rw [hm] at q1 c1 ha hl b1 hR hSv
  obtain ⟨M, hM⟩ : ∃ M, min 255 (m - a) = M := ⟨_, rfl⟩
  have hMi : min (255 : Int) ((m : Int) - (a : Int)) = (M : Int) := by omega
  have hM1 : M ≤ 255 ∧ a + M ≤ m := by omega
  obtain ⟨K, hK0⟩ : ∃ K, min 4096 a = K := ⟨_, rfl⟩
  have hKi : min (4096 : Int) (a : Int) = (K : Int) := by omega
  have hK1 : K ≤ 4096 ∧ K ≤ a := by omega
  rw [hK0] at hY ⊢
  obtain ⟨hM2, hM3⟩ := hM1
  obtain ⟨hK2, hK3⟩ := hK1
  have hln : Hid (∀ d, lnT D a d = cmn D d a M) := by intro d; unfold lnT mst; rw [hm, hM]
  replace hm := hidden hm
  replace hb := hidden hb
  clear hM hK0
  gi_wp2
  gi_loopw [5] (fun i wr => ∃ k : Nat, k ≤ K ∧ i = .int .i64 ((k : Int) + 1) ∧ J (cps D a k) wr ∧ KeepS S W wr ∧ W.heap.size ≤ wr.heap.size)
    (fun i _ => K + 1 - (intOf i).toNat)
  case atStart => exact ⟨0, Nat.zero_le _, rfl, h0, KeepS.refl _ _, Nat.le_refl _⟩
  case round =>
    obtain ⟨k, hk, rfl, hJs, hKp, hsz⟩ := hrel
    have d1 := (b1.keep hKp hS1).cell 0 _ rfl
    have d2 := (b2.keep hKp hS2).cell 0 _ rfl
    have dR : Hid (Rd8 wr (.slice (some ⟨bb, off, none⟩) m cap) D) := hidden (Rd.keep hR hKp (by rw [hm.out]; exact hSv) hsz)
    obtain ⟨wq, hwq⟩ : ∃ x, x = wr := ⟨_, rfl⟩
    subst hwq
    replace hJs := hidden hJs
    replace hKp := hidden hKp
    by_cases hlt' : k < K
    · have k1 : (k : Int) + 1 ≤ (K : Int) := by omega
      obtain ⟨L, hL⟩ : ∃ L, cmn D (k + 1) a M = L := ⟨_, rfl⟩
      have hLM : L ≤ M := by rw [← hL]; exact cmn_le _ _ _ _
      replace hL := hidden hL
      gi_wp2
      gi_loopw [6] (fun s6 wx => ∃ j : Nat, s6 = .int .i64 (j : Int) ∧ j ≤ M ∧ Hid (j + cmn D (k + 1) (a + j) (M - j) = L) ∧ Ext wq wx) (fun s6 _ => M - (intOf s6).toNat)
      case atStart => exact ⟨0, rfl, Nat.zero_le _, by show _ = _; rw [Nat.zero_add, Nat.add_zero, Nat.sub_zero]; exact hL.out, Ext.refl _⟩
      case round =>
        obtain ⟨j, rfl, hjM, hLj, hX⟩ := hrel
        obtain ⟨wj, hwj⟩ : ∃ x, x = wr := ⟨_, rfl⟩
        subst hwj
        have e1 := hX.cell d1
        have e2 := hX.cell d2
        by_cases hj : j < M
        · have dR2 := Rd.ext dR.out hX
          have cA := Rd8.at dR2 (a + j) (by rw [hm.out]; omega)
          have cB := Rd8.at dR2 (a + j - (k + 1)) (by rw [hm.out]; omega)
          have yA := getD_bd8 hb.out (a + j)
          have yB := getD_bd8 hb.out (a + j - (k + 1))
          have i1 : (0 : Int) ≤ (a : Int) + (j : Int) := by omega
          have i2 : (a : Int) + (j : Int) < (m : Int) := by omega
          have i3 : ((a : Int) + (j : Int)).toNat = a + j := by omega
          have i4 : (0 : Int) ≤ (a : Int) + (j : Int) - ((k : Int) + 1) := by omega
          have i5 : (a : Int) + (j : Int) - ((k : Int) + 1) < (m : Int) := by omega
          have i6 : ((a : Int) + (j : Int) - ((k : Int) + 1)).toNat = a + j - (k + 1) := by omega
          have w1 : IntKind.i64.wrap ((a : Int) + (j : Int)) = (a : Int) + (j : Int) := IntWalk.i64_in _ (by omega)
          have w2 : IntKind.i64.wrap ((a : Int) + (j : Int) - ((k : Int) + 1)) = (a : Int) + (j : Int) - ((k : Int) + 1) := IntWalk.i64_in _ (by omega)
          have hjI : decide ((j : Int) < (M : Int)) = true := by simp [hj]
          by_cases hq : D.getD (a + j) 0 = D.getD (a + j - (k + 1)) 0
          · have hst := hidden (cmn_step (D := D) (d := k + 1) (a := a) hj hq)
            rw [← hq] at cB
            obtain ⟨y, hy⟩ : ∃ y, D.getD (a + j) 0 = y := ⟨_, rfl⟩
            rw [hy] at cA cB
            replace dR2 := hidden dR2
            clear hq hy yA yB
            gi_wp2
            refine wpIn_wide.2 ?_
            go_quiet (fail)
            gi_wp2
            go_round
            case rel => exact ⟨j + 1, by go_num, by omega, by show _ = _; rw [← hst.out]; exact hLj.out, hX.drewN _⟩
            case measure => simp [intOf]; omega
          · have hst := hidden (cmn_stop (D := D) (d := k + 1) (a := a) hj hq)
            obtain ⟨y, hy⟩ : ∃ y, D.getD (a + j) 0 = y := ⟨_, rfl⟩
            obtain ⟨z, hz⟩ : ∃ z, D.getD (a + j - (k + 1)) 0 = z := ⟨_, rfl⟩
            rw [hy] at cA hq
            rw [hz] at cB hq
            have hyz : (y == z) = false := by simp [hq]
            have hyz2 : decide (y = z) = false := by simp [hq]
            have hfin : Hid (L = j) := by show _ = _; rw [← hLj.out, hst.out]
            replace dR2 := hidden dR2
            clear hq hy hz yA yB hst
            have hln1 : Hid (lnT D a (k + 1) = j) := by show _ = _; rw [hln.out, hL.out, hfin.out]
            by_cases h2 : 2 ≤ j
            · have h2i : (2 : Int) ≤ (j : Int) := by omega
              gi_wp2
              refine wpIn_wide.2 ?_
              go_quiet (fail)
              have gX : Ext wq (wj.drewN nq) := hX.drewN _
              have hY1 := hY (cps D a k) (k + 1, j) (wj.drewN nq) (hJ _ _ _ none hJs.out gX.grown (fun r e => by cases e)) (by have := cps_len D a k; omega)
              change YieldAt Fence.wide (n - 1) Try.prog l #[.int .i64 ((k : Int) + 1), .int .i64 (j : Int)] (wj.drewN nq) _ at hY1
              obtain ⟨fn, tmps, assign, body, hy, hR'⟩ := hY1
              have gX := hidden gX
              gi_wp2
              refine hR'.mono ?_
              rintro e W3 (⟨rfl, hJ3, hk3, hz3⟩ | ⟨rfl, hJx3⟩)
              · have hz4 := gX.out.size
                have hk4 := hidden (hKp.out.trans ((KeepS.ext gX.out (fun z hz => Nat.lt_of_lt_of_le (hlt z hz) hsz)).trans hk3))
                have hJ4 := hidden hJ3
                clear hJ3 hk3 hy
                gi_wp2
                go_roundw
                case rel => exact ⟨k + 1, by omega, by go_num, by rw [cps_yes D a k (by rw [hln1.out]; exact h2), hln1.out]; exact hJ4.out, hk4.out, by omega⟩
                case measure => simp [intOf]; omega
              · have hJ4 := hidden hJx3
                clear hJx3 hy
                gi_wp2
                refine bodyPost_ret (v := .tuple #[]) (by simp [results, Try.f65, go_sem]) rfl ⟨⟨_, rfl⟩, .inr ⟨_, ⟨k + 1, by omega, by rw [cps_yes D a k (by rw [hln1.out]; exact h2), hln1.out]⟩, hJ4.out⟩⟩
            · have h2i : ¬ (2 : Int) ≤ (j : Int) := by omega
              gi_wp2
              refine wpIn_wide.2 ?_
              go_quiet (fail)
              have gX : Ext wq (wj.drewN nq) := hX.drewN _
              have gX := hidden gX
              gi_wp2
              refine ⟨fun _ h => (by cases h), ?_⟩
              have hz4 := gX.out.size
              have hk4 := hidden (hKp.out.trans (KeepS.ext gX.out (fun z hz => Nat.lt_of_lt_of_le (hlt z hz) hsz)))
              have hJ4 := hidden (hJ _ _ _ none hJs.out gX.out.grown (fun r e => by cases e))
              gi_wp2
              go_roundw
              case rel => exact ⟨k + 1, by omega, by go_num, by rw [cps_no D a k (by rw [hln1.out]; omega)]; exact hJ4.out, hk4.out, by omega⟩
              case measure => simp [intOf]; omega
        · have hfin : Hid (L = j) := by show _ = _; rw [← hLj.out, show M - j = 0 by omega]; rfl
          have hjI : decide ((j : Int) < (M : Int)) = false := by simp; omega
          have hln1 : Hid (lnT D a (k + 1) = j) := by show _ = _; rw [hln.out, hL.out, hfin.out]
          by_cases h2 : 2 ≤ j
          · have h2i : (2 : Int) ≤ (j : Int) := by omega
            gi_wp2
            refine wpIn_wide.2 ?_
            go_quiet (fail)
            have gX : Ext wq (wj.drewN nq) := hX.drewN _
            have hY1 := hY (cps D a k) (k + 1, j) (wj.drewN nq) (hJ _ _ _ none hJs.out gX.grown (fun r e => by cases e)) (by have := cps_len D a k; omega)
            change YieldAt Fence.wide (n - 1) Try.prog l #[.int .i64 ((k : Int) + 1), .int .i64 (j : Int)] (wj.drewN nq) _ at hY1
            obtain ⟨fn, tmps, assign, body, hy, hR'⟩ := hY1
            have gX := hidden gX
            gi_wp2
            refine hR'.mono ?_
            rintro e W3 (⟨rfl, hJ3, hk3, hz3⟩ | ⟨rfl, hJx3⟩)
            · have hz4 := gX.out.size
              have hk4 := hidden (hKp.out.trans ((KeepS.ext gX.out (fun z hz => Nat.lt_of_lt_of_le (hlt z hz) hsz)).trans hk3))
              have hJ4 := hidden hJ3
              clear hJ3 hk3 hy
              gi_wp2
              go_roundw
              case rel => exact ⟨k + 1, by omega, by go_num, by rw [cps_yes D a k (by rw [hln1.out]; exact h2), hln1.out]; exact hJ4.out, hk4.out, by omega⟩
              case measure => simp [intOf]; omega
            · have hJ4 := hidden hJx3
              clear hJx3 hy
              gi_wp2
              refine bodyPost_ret (v := .tuple #[]) (by simp [results, Try.f65, go_sem]) rfl ⟨⟨_, rfl⟩, .inr ⟨_, ⟨k + 1, by omega, by rw [cps_yes D a k (by rw [hln1.out]; exact h2), hln1.out]⟩, hJ4.out⟩⟩
          · have h2i : ¬ (2 : Int) ≤ (j : Int) := by omega
            gi_wp2
            refine wpIn_wide.2 ?_
            go_quiet (fail)
            have gX : Ext wq (wj.drewN nq) := hX.drewN _
            have gX := hidden gX
            gi_wp2
            refine ⟨fun _ h => (by cases h), ?_⟩
            have hz4 := gX.out.size
            have hk4 := hidden (hKp.out.trans (KeepS.ext gX.out (fun z hz => Nat.lt_of_lt_of_le (hlt z hz) hsz)))
            have hJ4 := hidden (hJ _ _ _ none hJs.out gX.out.grown (fun r e => by cases e))
            gi_wp2
            go_roundw
            case rel => exact ⟨k + 1, by omega, by go_num, by rw [cps_no D a k (by rw [hln1.out]; omega)]; exact hJ4.out, hk4.out, by omega⟩
            case measure => simp [intOf]; omega
    · have k1 : ¬ (k : Int) + 1 ≤ (K : Int) := by omega
      have k2 : k = K := by omega
      have k2 := hidden k2
      gi_wp2
      go_end0
      exact ⟨⟨_, rfl⟩, .inl (by have := hJs.out; rw [k2.out] at this; exact this)⟩
end Go.Proofs.Ytjfdmhdmadnkoaa

/- Layer 35: the longest copy at a place, of the program. -/
namespace Go.Proofs.Ytjfdmhdmadnkoaa
open Go.RowKit Go.Shelf
set_option linter.unusedVariables false
attribute [local go_sem] Oper.semAt_some

theorem copies_stops (n : Nat) (hn : 2 ≤ n) (E1 E2 a : Nat) (ad : Option Addr) (m c : Nat) (D : List Int) (hb : Bytes D) (ha : a < D.length) (hl : D.length ≤ 65536) (S : List Nat) (hS1 : E1 ∈ S) (hS2 : E2 ∈ S) (hSv : 0 < D.length → ∀ g, (Value.slice ad m c).ownBlock = some g → g ∈ S)
    (w : World) (hlt : ∀ z ∈ S, z < w.heap.size) (b1 : Blk w E1 22 [.slice ad m c]) (b2 : Blk w E2 3 [.int .i64 (a : Int)]) (hR : Rd8 w (.slice ad m c) D) :
    SeqStopsK Fence.wide n Try.prog 65 #[.pointer (some ⟨E1, 0, none⟩), .pointer (some ⟨E2, 0, none⟩)] (fun z : Nat × Nat => #[.int .i64 (z.1 : Int), .int .i64 (z.2 : Int)]) (fun A B => KeepS S A B ∧ A.heap.size ≤ B.heap.size) (fun ys => ys = cps D a (min 4096 a)) (fun pre => ∃ k, k ≤ min 4096 a ∧ pre = cps D a k) (min 4096 a) w :=
  fun l J Jx W hW hJ hJx hY h0 =>
    have hE : Ext w W := hW
    copies1_in n hn l E1 E2 a (.slice ad m c) D hb ha hl S hS1 hS2 hSv J Jx W hJ (fun z hz => Nat.lt_of_lt_of_le (hlt z hz) hE.size) hY (b1.ext hE) (b2.ext hE) (Rd.ext hR hE) h0
/-- A block whose cells hang on what has been yielded. -/
theorem blk_ownF {β : Type} (B : Nat) (t : TypeId) (f : β → List Value) : Own (fun (s : β) W => Blk W B t (f s)) := fun s X Y row hs hg hrow => by
  have hs' : X.heap[B]? = some (.cells (f s).toArray t (0, 0)) := hs
  show Y.heap[B]? = _
  rw [hg.block B (Array.getElem?_eq_some_iff.1 hs').1 (fun e' => by obtain ⟨o, ho, hc⟩ := hrow B e'.symm; rw [hs'] at ho; cases ho; cases hc)]
  exact hs'

set_option maxRecDepth 100000 in
set_option maxHeartbeats 4000000 in
theorem llongest_any (v : Value) (D : List Int) (a : Nat) (hb : Bytes D) (ha : a < D.length) (hl : D.length ≤ 65536) (w : World) (h : Rd8 w v D) :
    Calls Try.prog 44 #[v, .int .i64 (a : Int)] w fun x w' => x = .returned (tkv (loF D a)) ∧ Ext w w' := by
  obtain ⟨ad, cap, rfl, q1, q2, q3⟩ := Rd.shape h
  obtain ⟨bb, off, hab, hbb, -⟩ := Rd.cells h (by omega)
  subst hab
  have cA := Rd8.at h a ha
  have yA := getD_bd8 hb a
  obtain ⟨y, hy⟩ : ∃ y, D.getD a 0 = y := ⟨_, rfl⟩
  have hlo : loF D a = bsts y (cps D a (min 4096 a)) := by unfold loF; rw [hy]
  obtain ⟨⟨L0, D0, B0⟩, hN0⟩ : ∃ N, loF D a = N := ⟨_, rfl⟩
  rw [hN0] at hlo ⊢
  show Calls _ _ _ _ fun x w' => x = .returned (.agg #[.int .i64 L0, .int .i64 D0, .int .u8 B0]) ∧ Ext w w'
  clear hN0
  replace hlo := hidden hlo
  rw [hy] at cA yA
  obtain ⟨m, hm⟩ : ∃ m, D.length = m := ⟨_, rfl⟩
  have haI : (a : Int) < (m : Int) := by omega
  have hl2 : m ≤ 65536 := by omega
  have haI0 : (0 : Int) ≤ (a : Int) := by omega
  rw [hm] at q1 ⊢
  have hR : Hid (Rd8 w (.slice (some ⟨bb, off, none⟩) m cap) D) := hidden (by rw [← hm]; exact h)
  replace hm := hidden hm
  replace hb := hidden hb
  clear h hy
  refine (callsIn_wide (n := 6)).1 ?_
  refine callsIn_of_wp_marks Try.func44 rfl trivial ?_ rfl
  simp only [Try.ntmps44, List.size_toArray, List.length_cons, List.length_nil, Nat.reduceAdd, Nat.reduceSub, Array.replicate_succ, Array.replicate_zero, List.push_toArray, List.append_toArray, List.nil_append, List.cons_append]
  gi_wp2_with (refine ⟨trivial, ?_⟩; gi_at_call 59; refine (callsIn_wide.2 (copies_in _ _ _ _ _)).mono ?_; rintro e w2 ⟨rfl, rfl⟩)
  have bZ := (((Blk.new w [.int .i64 0, .int .i64 0, .int .u8 0] 60).alloc (.cells #[.int .i64 0, .int .i64 0, .int .u8 y] 60)).alloc (.cells #[.slice (some ⟨bb, off, none⟩) m cap] 22)).alloc (.cells #[.int .i64 (a : Int)] 3)
  have bB : Blk ((((w.alloc (.cells #[.int .i64 0, .int .i64 0, .int .u8 0] 60)).alloc (.cells #[.int .i64 0, .int .i64 0, .int .u8 y] 60)).alloc (.cells #[.slice (some ⟨bb, off, none⟩) m cap] 22)).alloc (.cells #[.int .i64 (a : Int)] 3)) (w.heap.size + 1) 60 (tkc (bsts y [])) := ((Blk.newAt (w.alloc (.cells #[.int .i64 0, .int .i64 0, .int .u8 0] 60)) [.int .i64 0, .int .i64 0, .int .u8 y] 60 (w.heap.size + 1) (by simp)).alloc (.cells #[.slice (some ⟨bb, off, none⟩) m cap] 22)).alloc (.cells #[.int .i64 (a : Int)] 3)
  have b1 : Blk ((((w.alloc (.cells #[.int .i64 0, .int .i64 0, .int .u8 0] 60)).alloc (.cells #[.int .i64 0, .int .i64 0, .int .u8 y] 60)).alloc (.cells #[.slice (some ⟨bb, off, none⟩) m cap] 22)).alloc (.cells #[.int .i64 (a : Int)] 3)) (w.heap.size + 2) 22 [.slice (some ⟨bb, off, none⟩) m cap] := (Blk.newAt ((w.alloc (.cells #[.int .i64 0, .int .i64 0, .int .u8 0] 60)).alloc (.cells #[.int .i64 0, .int .i64 0, .int .u8 y] 60)) [.slice (some ⟨bb, off, none⟩) m cap] 22 (w.heap.size + 2) (by simp)).alloc (.cells #[.int .i64 (a : Int)] 3)
  have b2 : Blk ((((w.alloc (.cells #[.int .i64 0, .int .i64 0, .int .u8 0] 60)).alloc (.cells #[.int .i64 0, .int .i64 0, .int .u8 y] 60)).alloc (.cells #[.slice (some ⟨bb, off, none⟩) m cap] 22)).alloc (.cells #[.int .i64 (a : Int)] 3)) (w.heap.size + 3) 3 [.int .i64 (a : Int)] := Blk.newAt (((w.alloc (.cells #[.int .i64 0, .int .i64 0, .int .u8 0] 60)).alloc (.cells #[.int .i64 0, .int .i64 0, .int .u8 y] 60)).alloc (.cells #[.slice (some ⟨bb, off, none⟩) m cap] 22)) [.int .i64 (a : Int)] 3 (w.heap.size + 3) (by simp)
  have hEW : Ext w ((((w.alloc (.cells #[.int .i64 0, .int .i64 0, .int .u8 0] 60)).alloc (.cells #[.int .i64 0, .int .i64 0, .int .u8 y] 60)).alloc (.cells #[.slice (some ⟨bb, off, none⟩) m cap] 22)).alloc (.cells #[.int .i64 (a : Int)] 3)) := ((((Ext.refl w).alloc _).alloc _).alloc _).alloc _
  obtain ⟨W2, hW2⟩ : ∃ W, ((((w.alloc (.cells #[.int .i64 0, .int .i64 0, .int .u8 0] 60)).alloc (.cells #[.int .i64 0, .int .i64 0, .int .u8 y] 60)).alloc (.cells #[.slice (some ⟨bb, off, none⟩) m cap] 22)).alloc (.cells #[.int .i64 (a : Int)] 3)) = W := ⟨_, rfl⟩
  have hsz2 : W2.heap.size = w.heap.size + 4 := by rw [← hW2]; simp
  rw [hW2] at bZ bB b1 b2 hEW
  rw [hW2]
  have hR2 := Rd.ext hR.out hEW
  clear hW2 cA
  have hlt : ∀ z ∈ [w.heap.size + 2, w.heap.size + 3, bb], z < W2.heap.size := by
    intro z hz
    simp at hz
    omega
  have hnd : ∀ z ∈ [w.heap.size + 2, w.heap.size + 3, bb], z ≠ w.heap.size + 1 := by
    intro z hz
    simp at hz
    omega
  have hsz2 := hidden hsz2
  refine wpIn_rangeFunc_ownG rfl (by omega) (gf := 65) (lb := #[.pointer (some ⟨w.heap.size + 2, 0, none⟩), .pointer (some ⟨w.heap.size + 3, 0, none⟩)]) rfl trivial (enters_of Try.func65 (by kernel_rfl) rfl)
    (copies_stops 5 (by omega) (w.heap.size + 2) (w.heap.size + 3) a (some ⟨bb, off, none⟩) m cap D hb.out (by rw [hm.out]; omega) (by rw [hm.out]; omega) [w.heap.size + 2, w.heap.size + 3, bb] (by simp) (by simp) (fun _ g hg => by simp [Value.ownBlock] at hg; simp [hg]) W2 hlt b1 b2 hR2) keepz_t (keepz_b hlt) (Below.refl _ _) (fun _ => rfl)
    (fun pre W => Blk W (w.heap.size + 1) 60 (tkc (bsts y pre)) ∧ Blk W w.heap.size 60 [.int .i64 0, .int .i64 0, .int .u8 0] ∧ Below w.heap.size w W)
    (fun _ _ _ => False)
    (OwnFrom.and (Own.from (blk_ownF _ _ (fun pre => tkc (bsts y pre))) _) (OwnFrom.and (Own.from (blk_own _ _ _) _) (ownFrom_below (Nat.le_refl _) (by rw [hsz2.out]; omega))))
    (fun _ _ _ _ _ hs _ _ => hs)
    ⟨bB, bZ, hEW⟩
    (fun z => { tmps := #[.slice (some ⟨bb, off, none⟩) m cap, .int .i64 (a : Int), undef, undef, .pointer (some ⟨w.heap.size, 0, none⟩), .pointer (some ⟨w.heap.size + 1, 0, none⟩), .int .i64 (z.1 : Int), .int .i64 (z.2 : Int), .slice (some ⟨bb, off, none⟩) m cap, .int .i64 (a : Int), .pointer (some ⟨bb, off + a, none⟩), .int .u8 y, .agg #[.int .i64 0, .int .i64 0, .int .u8 y], .slice (some ⟨bb, off, none⟩) m cap, .int .i64 (a : Int), .func (.func 65) #[] #[.pointer (some ⟨w.heap.size + 2, 0, none⟩), .pointer (some ⟨w.heap.size + 3, 0, none⟩)], .int .i64 (z.1 : Int), .int .i64 (z.2 : Int), undef, undef, undef, undef, undef, undef, undef, undef], defers := [] }) ?assign ?body ?done ?stop
  case assign =>
    intro l x W K hK
    gi_wp2
    exact hK
  case body =>
    rintro l pre z W ⟨hX, hZ, hB⟩ hlen
    have hsn := bsts_snoc y pre z
    obtain ⟨⟨L, Ds, Bt⟩, hN⟩ : ∃ N, bsts y pre = N := ⟨_, rfl⟩
    rw [hN] at hX hsn
    have c0 := hX.cell 0 _ rfl
    have f0 := hX.frozen 0
    have c1 := hX.cell 1 _ rfl
    have f1 := hX.frozen 1
    have c2 := hX.cell 2 _ rfl
    have f2 := hX.frozen 2
    clear hN
    simp only at c0 c1 c2
    have hsn := hidden hsn
    have hX := hidden hX
    by_cases hc : L < (z.2 : Int)
    · gi_wp2
      exact ⟨(((KeepsOthers.setCell _ _ _).trans (KeepsOthers.setCell _ _ _)).trans (KeepsOthers.setCell _ _ _)).from _, ⟨fun z hz => ((Below.heap_setCell _ _ _ _ (hnd z hz)).trans (Below.heap_setCell _ _ _ _ (hnd z hz))).trans (Below.heap_setCell _ _ _ _ (hnd z hz)), by simp⟩,
        by rw [hsn.out]; unfold bst; rw [if_pos (by simp only; omega)]; exact ((hX.out.set 0 _).set 1 _).set 2 _, ((hZ.set_other (by omega) _).set_other (by omega) _).set_other (by omega) _,
        ((hB.setCell (p := ⟨w.heap.size + 1, 0, none⟩) (show w.heap.size ≤ w.heap.size + 1 by omega) _).setCell (p := ⟨w.heap.size + 1, 1, none⟩) (show w.heap.size ≤ w.heap.size + 1 by omega) _).setCell (p := ⟨w.heap.size + 1, 2, none⟩) (show w.heap.size ≤ w.heap.size + 1 by omega) _⟩
    · gi_wp2
      exact ⟨(KeepsOthers.refl W).from _, ⟨KeepS.refl _ _, Nat.le_refl _⟩, by rw [hsn.out]; unfold bst; rw [if_neg (by simp only; omega)]; exact hX.out, hZ, hB⟩
  case done =>
    rintro E ys W hD rfl ⟨hX, hZ, hB⟩ hK
    rw [← hlo.out] at hX
    have c0 := hX.cell 0 _ rfl
    have c1 := hX.cell 1 _ rfl
    have c2 := hX.cell 2 _ rfl
    have e0 := hZ.cell 0 _ rfl
    have e1 := hZ.cell 1 _ rfl
    have e2 := hZ.cell 2 _ rfl
    have f0 := hZ.frozen 0
    have f1 := hZ.frozen 1
    have f2 := hZ.frozen 2
    gi_wp2
    have hE : E ≠ w.heap.size := by have := hsz2.out; omega
    have hK3 : (((W.setCell ⟨w.heap.size, 0, none⟩ (.int .i64 L0)).setCell ⟨w.heap.size, 1, none⟩ (.int .i64 D0)).setCell ⟨w.heap.size, 2, none⟩ (.int .u8 B0)).heap[E]? = some (.deferred (some [])) := by
      rw [Below.heap_setCell _ _ _ _ hE, Below.heap_setCell _ _ _ _ hE, Below.heap_setCell _ _ _ _ hE]; exact hK
    have hZ3 : Blk (((W.setCell ⟨w.heap.size, 0, none⟩ (.int .i64 L0)).setCell ⟨w.heap.size, 1, none⟩ (.int .i64 D0)).setCell ⟨w.heap.size, 2, none⟩ (.int .u8 B0)) w.heap.size 60 [.int .i64 L0, .int .i64 D0, .int .u8 B0] := ((hZ.set 0 _).set 1 _).set 2 _
    have hB3 : Below w.heap.size w (((W.setCell ⟨w.heap.size, 0, none⟩ (.int .i64 L0)).setCell ⟨w.heap.size, 1, none⟩ (.int .i64 D0)).setCell ⟨w.heap.size, 2, none⟩ (.int .u8 B0)) :=
      ((hB.setCell (p := ⟨w.heap.size, 0, none⟩) (Nat.le_refl _) _).setCell (p := ⟨w.heap.size, 1, none⟩) (Nat.le_refl _) _).setCell (p := ⟨w.heap.size, 2, none⟩) (Nat.le_refl _) _
    obtain ⟨W3, hW3⟩ : ∃ X, (((W.setCell ⟨w.heap.size, 0, none⟩ (.int .i64 L0)).setCell ⟨w.heap.size, 1, none⟩ (.int .i64 D0)).setCell ⟨w.heap.size, 2, none⟩ (.int .u8 B0)) = X := ⟨_, rfl⟩
    rw [hW3] at hK3 hZ3 hB3 ⊢
    refine ⟨by simp, .inl ⟨_, _, rfl, run_takeDeferred hK3, ?_⟩⟩
    have hk4 : KeepS [w.heap.size] W3 (W3.putObj E (.deferred none)) := fun x hx => World.putObj_heap_other (fun e => by simp at hx; omega)
    have hZ4 := hZ3.keep hk4 (by simp)
    have g0 := hZ4.cell 0 _ rfl
    have g1 := hZ4.cell 1 _ rfl
    have g2 := hZ4.cell 2 _ rfl
    refine ⟨.agg #[.int .i64 L0, .int .i64 D0, .int .u8 B0], ?_, rfl, ?_⟩
    · simp [results, Try.f44, go_sem, g0, g1, g2]
    · exact hB3.trans (belowK_b (n₀ := w.heap.size) (w := w) (Nat.le_refl _) W3 E _ (.deferred none) (by have := hsz2.out; omega) hK3 rfl rfl)
  case stop =>
    rintro D c pre W _ _ h _
    exact h.elim
end Go.Proofs.Ytjfdmhdmadnkoaa

/- Layer 35: Longest and Greedy of the program; Common of the reference. -/
namespace Go.Proofs.Ytjfdmhdmadnkoaa
open Go.RowKit
set_option linter.unusedVariables false
attribute [local go_sem ↓] Go.wp_at_zero Go.wp_at_succ

/-- What Longest leaves. -/
def LoPost (w : World) (r : Int × (Int × Int × Int)) (x : Ending) (w' : World) : Prop := x = .returned (.tuple #[tkv r.2, .int .i64 r.1]) ∧ Ext w w'
theorem Ext.set3 {w w' : World} (h : Ext w w') (p : Nat) (hp : w.heap.size ≤ p) (a b c : Value) : Ext w (((w'.setCell ⟨p, 0, none⟩ a).setCell ⟨p, 1, none⟩ b).setCell ⟨p, 2, none⟩ c) :=
  ((h.setCell (p := ⟨p, 0, none⟩) hp a).setCell (p := ⟨p, 1, none⟩) hp b).setCell (p := ⟨p, 2, none⟩) hp c

theorem gre_step {b : List Int} {f a : Nat} (h : a < b.length) : gre b (f + 1) a = loF b a :: gre b f (a + (szT (loF b a)).toNat) := by rw [gre, if_pos h]

set_option maxRecDepth 100000 in
set_option maxHeartbeats 2000000 in
theorem lgreedy_any (v : Value) (D : List Int) (hb : Bytes D) (hl : D.length ≤ 9223372036854775807) (w : World) (h : Rd8 w v D) :
    Calls Try.prog 25 #[v] w (DePost w (grF D)) := by
  have hlo := fun (n : Nat) (hn : n < D.length) (hl : D.length ≤ 65536) W (hW : Rd8 W v D) => llongest_any v D n hb hn hl W hW
  obtain ⟨ad, cap, rfl, q1, q2, q3⟩ := Rd.shape h
  obtain ⟨m, hm⟩ : ∃ m, D.length = m := ⟨_, rfl⟩
  have e1 : 65536 < m → grF D = (5, []) := fun e => by unfold grF; rw [hm, if_pos e]
  have e2 : ¬ 65536 < m → grF D = (0, gre D m 0) := fun e => by unfold grF; rw [hm, if_neg e]
  have hR : Hid (Rd8 w (.slice ad m cap) D) := hidden (by rw [← hm]; exact h)
  rw [hm] at q1 hl hlo ⊢
  replace hlo := hidden hlo
  replace hm := hidden hm
  replace hb := hidden hb
  clear h
  by_cases k1 : 65536 < m
  · rw [e1 k1]
    clear e1 e2
    go_enter Try.func25, Try.ntmps25
    go_wp2_with fail
    go_ret2
    exact ⟨_, rfl, OwnT.nil _ _, Ext.refl _⟩
  · rw [e2 k1]
    clear e1 e2
    obtain ⟨R, hRR⟩ : ∃ R, gre D m 0 = R := ⟨_, rfl⟩
    rw [hRR]
    replace hRR := hidden hRR
    go_enter Try.func25, Try.ntmps25
    go_wp2_with fail
    go_loopw [4, 5] (fun s i wr => ∃ (k f q : Nat) (ad5 : Option Addr) (c5 : Nat) (out : List (Int × Int × Int)), s = .slice ad5 q c5 ∧ i = .int .i64 (k : Int) ∧ k ≤ m ∧ q ≤ k ∧ m ≤ k + f ∧ Hid (out.length = q) ∧ Hid (OwnT wr w.heap.size (.slice ad5 q c5) out) ∧ Hid (R = out ++ gre D f k) ∧ Ext w wr) (fun _ i _ => m - (intOf i).toNat)
    case atStart => exact ⟨0, m, 0, none, 0, [], rfl, rfl, by omega, by omega, by omega, rfl, hidden (OwnT.nil _ _), by show _ = _; rw [hRR.out]; rfl, Ext.refl _⟩
    case round =>
      obtain ⟨k, f, q, ad5, c5, out, rfl, rfl, hk, hqk, hf, hol, hO, hRc, hX⟩ := hrel
      obtain ⟨W, hWW⟩ : ∃ Z, Z = wr := ⟨_, rfl⟩
      subst hWW
      by_cases hlt : k < m
      · obtain ⟨f, rfl⟩ : ∃ g, f = g + 1 := ⟨f - 1, by omega⟩
        have hR1 := Rd.ext hR.out hX
        have hl2 := hlo.out k hlt (by omega)
        obtain ⟨u1, u2, u3, u4, u5, u6, u7, u8⟩ := loF_ok hb.out (a := k) (by rw [hm.out]; exact hlt)
        have hst := gre_step (b := D) (f := f) (a := k) (by rw [hm.out]; exact hlt)
        have hpos := szT_pos (loF D k)
        obtain ⟨⟨L, Ds, B⟩, hN⟩ : ∃ N, loF D k = N := ⟨_, rfl⟩
        rw [hN] at hl2 hst hpos u3
        rw [hm.out] at u3
        have hsz := lsize_any L Ds B
        obtain ⟨y, hy⟩ : ∃ y, szT (L, Ds, B) = y := ⟨_, rfl⟩
        rw [hy] at hst hpos u3
        simp only [hy] at hsz
        have hyn : ((k : Int) + y) = ((k + y.toNat : Nat) : Int) := by omega
        replace hyn := hidden hyn
        replace hl2 := hidden hl2
        replace hst := hidden hst
        replace hsz := hidden hsz
        clear hy hN u1 u2 u4 u5 u6 u7 u8
        go_wp2_with fail
        refine (hl2.out _ hR1).mono ?_
        rintro e w3 ⟨he2, g3⟩
        change e = .returned (.agg #[.int .i64 L, .int .i64 Ds, .int .u8 B]) at he2
        subst he2
        have hX3 := hX.trans g3
        have hX4 := hX3.alloc (.cells #[.int .i64 L, .int .i64 Ds, .int .u8 B] 60)
        have O3 := OwnT.alloc (own_ext hO.out g3 : OwnT w3 w.heap.size (.slice ad5 q c5) out) (.cells #[.int .i64 L, .int .i64 Ds, .int .u8 B] 60)
        have O3' : OwnT w3 w.heap.size (.slice ad5 q c5) out := own_ext hO.out g3
        have hB3 := Blk.new w3 [.int .i64 L, .int .i64 Ds, .int .u8 B] 60
        have hB3' := hB3.alloc (.cells #[.int .i64 L, .int .i64 Ds, .int .u8 B] 60)
        have hq3 := Blk.newAt (w3.alloc (.cells #[.int .i64 L, .int .i64 Ds, .int .u8 B] 60)) [.int .i64 L, .int .i64 Ds, .int .u8 B] 60 (w3.heap.size + 1) (by simp)
        have hs3 : w.heap.size ≤ ((w3.alloc (.cells #[.int .i64 L, .int .i64 Ds, .int .u8 B] 60)).alloc (.cells #[.int .i64 L, .int .i64 Ds, .int .u8 B] 60)).heap.size := by rw [World.size_alloc, World.size_alloc]; have := hX3.size; omega
        have hfar : (Value.slice ad5 q c5).ownBlock ≠ some w3.heap.size := fun e => by have h4 := own_lt O3' e; omega
        have d0 := hB3.cell 0 _ rfl
        have d1 := hB3.cell 1 _ rfl
        have d2 := hB3.cell 2 _ rfl
        replace O3 := hidden O3
        replace O3' := hidden O3'
        replace hB3 := hidden hB3
        replace hB3' := hidden hB3'
        replace hq3 := hidden hq3
        replace hX4 := hidden hX4
        replace hfar := hidden hfar
        clear hR1
        go_wp2_with (at_builtin; refine wpList_appendT (by rfl) _ _ (by rfl) w.heap.size (.slice ad5 q c5) out (L, Ds, B) (w3.heap.size + 1) (OwnT.alloc O3.out _) (by rfl) (by rfl) hq3.out (by rw [hol.out]; omega) hs3 ?_; rw [hol.out]; intro g cap' w4 hO4 hg4 hat4 hlt4; have B4 := hB3'.out.grown hg4 hfar.out; have d0' := B4.cell 0 _ rfl; have d1' := B4.cell 1 _ rfl; have d2' := B4.cell 2 _ rfl)
        have hX5 : Ext w w4 := ownT_ext1 hX4.out _ O3.out hg4
        replace hO4 := hidden hO4
        clear B4
        go_wp2_with fail
        refine (hsz.out _).mono ?_
        rintro e w5 ⟨rfl, g5⟩
        go_wp2_with fail
        go_round
        case rel => exact ⟨k + y.toNat, f, q + 1, _, _, out ++ [(L, Ds, B)], rfl, by rw [hyn.out], by omega, by omega, by omega, hidden (by simp [hol.out]), hidden (own_ext hO4.out g5), by show _ = _; rw [hRc.out, hst.out]; simp, hX5.trans g5⟩
        case measure => simp [intOf]; omega
      · have hfin : Hid (R = out) := hidden (by rw [hRc.out, gre_end (by rw [hm.out]; omega), List.append_nil])
        go_wp2_with fail
        go_ret2
        rw [hfin.out]
        exact ⟨_, rfl, hO.out, hX⟩

set_option maxRecDepth 100000 in
set_option maxHeartbeats 2000000 in
theorem rcommon_any (v : Value) (D : List Int) (a d : Nat) (hb : Bytes D) (h1 : 1 ≤ d) (hd : d ≤ a) (ha : a < D.length) (hl : D.length ≤ 65536) (w : World) (h : Rd8 w v D) :
    Calls Try.prog 31 #[v, .int .i64 (a : Int), .int .i64 (d : Int)] w fun x w' => x = .returned (.int .i64 (lnT D a d : Int)) ∧ Ext w w' := by
  obtain ⟨ad, cap, rfl, q1, q2, q3⟩ := Rd.shape h
  obtain ⟨bb, off, hab, -, -⟩ := Rd.cells h (by omega)
  subst hab
  obtain ⟨m, hm⟩ : ∃ m, D.length = m := ⟨_, rfl⟩
  obtain ⟨M, hM⟩ : ∃ M, min 255 (m - a) = M := ⟨_, rfl⟩
  have hM1 : M ≤ 255 ∧ a + M ≤ m ∧ (M = 255 ∨ a + M = m) := by omega
  have hln : lnT D a d = cmn D d a M := by unfold lnT mst; rw [hm, hM]
  obtain ⟨L, hL⟩ : ∃ L, lnT D a d = L := ⟨_, rfl⟩
  have hLc : Hid (cmn D d a M = L) := hidden (by rw [← hln, hL])
  rw [hL]
  have hR : Hid (Rd8 w (.slice (some ⟨bb, off, none⟩) m cap) D) := hidden (by rw [← hm]; exact h)
  rw [hm] at q1 ha hl ⊢
  replace hm := hidden hm
  replace hb := hidden hb
  obtain ⟨hM2, hM3, hM4⟩ := hM1
  replace hM4 := hidden hM4
  clear h hM hln hL
  go_enter Try.func31, Try.ntmps31
  go_wp2_with fail
  go_loopw [7] (fun s6 wx => ∃ j : Nat, s6 = .int .i64 (j : Int) ∧ j ≤ M ∧ Hid (j + cmn D d (a + j) (M - j) = L) ∧ Ext w wx) (fun s6 _ => M - (intOf s6).toNat)
  case atStart => exact ⟨0, rfl, Nat.zero_le _, by show _ = _; rw [Nat.zero_add, Nat.add_zero, Nat.sub_zero]; exact hLc.out, Ext.refl _⟩
  case round =>
    obtain ⟨j, rfl, hjM, hLj, hX⟩ := hrel
    obtain ⟨wj, hwj⟩ : ∃ x, x = wr := ⟨_, rfl⟩
    subst hwj
    by_cases hj : j < M
    · have dR2 := Rd.ext hR.out hX
      have cA := Rd8.at dR2 (a + j) (by rw [hm.out]; omega)
      have cB := Rd8.at dR2 (a + j - d) (by rw [hm.out]; omega)
      have i1 : (0 : Int) ≤ (a : Int) + (j : Int) := by omega
      have i2 : (a : Int) + (j : Int) < (m : Int) := by omega
      have i3 : ((a : Int) + (j : Int)).toNat = a + j := by omega
      have i4 : (0 : Int) ≤ (a : Int) + (j : Int) - (d : Int) := by omega
      have i5 : (a : Int) + (j : Int) - (d : Int) < (m : Int) := by omega
      have i6 : ((a : Int) + (j : Int) - (d : Int)).toNat = a + j - d := by omega
      have i7 : (j : Int) < 255 := by omega
      have w1 : IntKind.i64.wrap ((a : Int) + (j : Int)) = (a : Int) + (j : Int) := IntWalk.i64_in _ (by omega)
      have w2 : IntKind.i64.wrap ((a : Int) + (j : Int) - (d : Int)) = (a : Int) + (j : Int) - (d : Int) := IntWalk.i64_in _ (by omega)
      have b1 : decide ((j : Int) < 255) = true := by simp; omega
      have b2 : decide ((a : Int) + (j : Int) < (m : Int)) = true := by simp; omega
      by_cases hq : D.getD (a + j) 0 = D.getD (a + j - d) 0
      · have hst := hidden (cmn_step (D := D) (d := d) (a := a) hj hq)
        rw [← hq] at cB
        obtain ⟨y, hy⟩ : ∃ y, D.getD (a + j) 0 = y := ⟨_, rfl⟩
        rw [hy] at cA cB
        replace dR2 := hidden dR2
        clear hq hy
        go_wp2_with fail
        go_quiet (fail)
        go_wp2_with fail
        go_round
        case rel => exact ⟨j + 1, by go_num, by omega, by show _ = _; rw [← hst.out]; exact hLj.out, hX.drewN _⟩
        case measure => simp [intOf]; omega
      · have hst := cmn_stop (D := D) (d := d) (a := a) hj hq
        obtain ⟨y, hy⟩ : ∃ y, D.getD (a + j) 0 = y := ⟨_, rfl⟩
        obtain ⟨z, hz⟩ : ∃ z, D.getD (a + j - d) 0 = z := ⟨_, rfl⟩
        rw [hy] at cA hq
        rw [hz] at cB hq
        have hyz : (y == z) = false := by simp [hq]
        have hfin : Hid (L = j) := by show _ = _; rw [← hLj.out, hst]
        replace dR2 := hidden dR2
        clear hq hy hz hst
        go_wp2_with fail
        go_quiet (fail)
        go_wp2_with fail
        go_ret
        exact ⟨ret_int (by rw [hfin.out]), hX.drewN _⟩
    · have hfin : Hid (L = j) := by show _ = _; rw [← hLj.out, show M - j = 0 by omega]; rfl
      by_cases hj2 : j < 255
      · have b1 : decide ((j : Int) < 255) = true := by simp; omega
        have b2 : decide ((a : Int) + (j : Int) < (m : Int)) = false := by have := hM4.out; simp; omega
        have w1 : IntKind.i64.wrap ((a : Int) + (j : Int)) = (a : Int) + (j : Int) := IntWalk.i64_in _ (by omega)
        go_wp2_with fail
        go_quiet (fail)
        go_wp2_with fail
        go_ret
        exact ⟨ret_int (by rw [hfin.out]), hX.drewN _⟩
      · have b1 : decide ((j : Int) < 255) = false := by simp; omega
        go_wp2_with fail
        go_quiet (fail)
        go_wp2_with fail
        go_ret
        exact ⟨ret_int (by rw [hfin.out]), hX.drewN _⟩
end Go.Proofs.Ytjfdmhdmadnkoaa
