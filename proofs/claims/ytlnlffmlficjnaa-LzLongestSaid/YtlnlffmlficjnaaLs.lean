/- Layer 35: copies, an iterator over distances and lengths. -/
import Derived.Test.YtlnlffmlficjnaaLq
import Derived.Test.YtlnlffmlficjnaaBj
import Derived.Sort.CutIn
import Derived.ControlIn
namespace Go.Proofs.Ytlnlffmlficjnaa
open Go.RowKit Go.Shelf
set_option linter.unusedVariables false
attribute [local go_sem] Oper.semAt_some

theorem copies_in (ad : Option Addr) (m c : Nat) (x : Int) (w : World) :
    Calls Try.prog 46 #[.slice ad m c, .int .i64 x] w fun e w' =>
      e = .returned (.func (.func 56) #[] #[.pointer (some ⟨w.heap.size, 0, none⟩), .pointer (some ⟨w.heap.size + 1, 0, none⟩)]) ∧
      w' = (w.alloc (.cells #[.slice ad m c] 28)).alloc (.cells #[.int .i64 x] 3) := by
  go_enter Try.func46, Try.ntmps46
  go_wp2_with fail
  go_ret
  exact ⟨rfl, rfl⟩

theorem cmn_step {D : List Int} {d a k M : Nat} (hk : k < M) (h : D.getD (a + k) 0 = D.getD (a + k - d) 0) : k + cmn D d (a + k) (M - k) = k + 1 + cmn D d (a + (k + 1)) (M - (k + 1)) := by
  obtain ⟨j, hj⟩ : ∃ j, M - k = j + 1 := ⟨M - k - 1, by omega⟩
  rw [hj, show M - (k + 1) = j by omega, cmn, if_pos h, Nat.add_assoc a k 1]
  omega
theorem cmn_stop {D : List Int} {d a k M : Nat} (hk : k < M) (h : D.getD (a + k) 0 ≠ D.getD (a + k - d) 0) : k + cmn D d (a + k) (M - k) = k := by
  obtain ⟨j, hj⟩ : ∃ j, M - k = j + 1 := ⟨M - k - 1, by omega⟩
  rw [hj, cmn, if_neg h, Nat.add_zero]

set_option maxRecDepth 100000 in
set_option maxHeartbeats 2000000 in
theorem copies1_in (n : Nat) (hn : 2 ≤ n) (l B1 B2 a : Nat) (v : Value) (D : List Int) (hb : Bytes D) (ha : a < D.length) (hl : D.length ≤ 65536) (S : List Nat) (hS1 : B1 ∈ S) (hS2 : B2 ∈ S) (hSv : 0 < D.length → ∀ g, v.ownBlock = some g → g ∈ S)
    (J Jx : List (Nat × Nat) → World → Prop) (W : World) (hJ : AbidesFrom W.heap.size J) (hlt : ∀ z ∈ S, z < W.heap.size)
    (hY : ∀ pre z W1, J pre W1 → pre.length < min 4096 a → YieldAt Fence.wide (n - 1) Try.prog l #[.int .i64 ((z : Nat × Nat).1 : Int), .int .i64 (z.2 : Int)] W1 fun e W' =>
      (e = .returned (.bool true) ∧ J (pre ++ [z]) W' ∧ (KeepS S W1 W' ∧ W1.heap.size ≤ W'.heap.size)) ∨ (e = .returned (.bool false) ∧ Jx (pre ++ [z]) W'))
    (b1 : Blk W B1 28 [v]) (b2 : Blk W B2 3 [.int .i64 (a : Int)]) (hR : Rd8 W v D) (h0 : J [] W) :
    CallsIn Fence.wide n Try.prog 56 #[.func (.yield l) #[] #[], .pointer (some ⟨B1, 0, none⟩), .pointer (some ⟨B2, 0, none⟩)] W fun e W' => (∃ v, e = .returned v) ∧
      ((∃ ys, ys = cps D a (min 4096 a) ∧ J ys W') ∨ (∃ pre, (∃ k, k ≤ min 4096 a ∧ pre = cps D a k) ∧ Jx pre W')) := by
  refine callsIn_of_wp Try.func56 rfl trivial ?_ rfl
  simp only [Try.ntmps56, List.size_toArray, List.length_cons, List.length_nil, Nat.reduceAdd, Nat.reduceSub, Array.replicate_succ, Array.replicate_zero, List.push_toArray, List.append_toArray, List.nil_append, List.cons_append]
  obtain ⟨ad, cap, rfl, q1, q2, q3⟩ := Rd.shape hR
  obtain ⟨bb, off, hab, -, -⟩ := Rd.cells hR (by omega)
  subst hab
  have c1 := b1.cell 0 _ rfl
  have c2 := b2.cell 0 _ rfl
  have hn1 : 1 ≤ n := by omega
  have hn2 : 1 ≤ n - 1 := by omega
  obtain ⟨m, hm⟩ : ∃ m, D.length = m := ⟨_, rfl⟩
  rw [hm] at q1 c1 ha hl b1 hR hSv
  obtain ⟨M, hM⟩ : ∃ M, min 255 (m - a) = M := ⟨_, rfl⟩
  have hMi : min (255 : Int) ((m : Int) - (a : Int)) = (M : Int) := by omega
  have hM1 : M ≤ 255 ∧ a + M ≤ m := by omega
  obtain ⟨K, hK0⟩ : ∃ K, min 4096 a = K := ⟨_, rfl⟩
  have hKi : min (4096 : Int) (a : Int) = (K : Int) := by omega
  have hK1 : K ≤ 4096 ∧ K ≤ a := by omega
  rw [hK0] at hY ⊢
  obtain ⟨hM2, hM3⟩ := hM1
  obtain ⟨hK2, hK3⟩ := hK1
  have hln : Hid (∀ d, lnT D a d = cmn D d a M) := by intro d; unfold lnT mst; rw [hm, hM]
  replace hm := hidden hm
  replace hb := hidden hb
  clear hM hK0
  gi_wp2
  gi_loopw [5] (fun i wr => ∃ k : Nat, k ≤ K ∧ i = .int .i64 ((k : Int) + 1) ∧ J (cps D a k) wr ∧ KeepS S W wr ∧ W.heap.size ≤ wr.heap.size)
    (fun i _ => K + 1 - (intOf i).toNat)
  case atStart => exact ⟨0, Nat.zero_le _, rfl, h0, KeepS.refl _ _, Nat.le_refl _⟩
  case round =>
    obtain ⟨k, hk, rfl, hJs, hKp, hsz⟩ := hrel
    have d1 := (b1.keep hKp hS1).cell 0 _ rfl
    have d2 := (b2.keep hKp hS2).cell 0 _ rfl
    have dR : Hid (Rd8 wr (.slice (some ⟨bb, off, none⟩) m cap) D) := hidden (Rd.keep hR hKp (by rw [hm.out]; exact hSv) hsz)
    obtain ⟨wq, hwq⟩ : ∃ x, x = wr := ⟨_, rfl⟩
    subst hwq
    replace hJs := hidden hJs
    replace hKp := hidden hKp
    by_cases hlt' : k < K
    · have k1 : (k : Int) + 1 ≤ (K : Int) := by omega
      obtain ⟨L, hL⟩ : ∃ L, cmn D (k + 1) a M = L := ⟨_, rfl⟩
      have hLM : L ≤ M := by rw [← hL]; exact cmn_le _ _ _ _
      replace hL := hidden hL
      gi_wp2
      gi_loopw [6] (fun s6 wx => ∃ j : Nat, s6 = .int .i64 (j : Int) ∧ j ≤ M ∧ Hid (j + cmn D (k + 1) (a + j) (M - j) = L) ∧ Ext wq wx) (fun s6 _ => M - (intOf s6).toNat)
      case atStart => exact ⟨0, rfl, Nat.zero_le _, by show _ = _; rw [Nat.zero_add, Nat.add_zero, Nat.sub_zero]; exact hL.out, Ext.refl _⟩
      case round =>
        obtain ⟨j, rfl, hjM, hLj, hX⟩ := hrel
        obtain ⟨wj, hwj⟩ : ∃ x, x = wr := ⟨_, rfl⟩
        subst hwj
        have e1 := hX.cell d1
        have e2 := hX.cell d2
        by_cases hj : j < M
        · have dR2 := Rd.ext dR.out hX
          have cA := Rd8.at dR2 (a + j) (by rw [hm.out]; omega)
          have cB := Rd8.at dR2 (a + j - (k + 1)) (by rw [hm.out]; omega)
          have yA := getD_bd8 hb.out (a + j)
          have yB := getD_bd8 hb.out (a + j - (k + 1))
          have i1 : (0 : Int) ≤ (a : Int) + (j : Int) := by omega
          have i2 : (a : Int) + (j : Int) < (m : Int) := by omega
          have i3 : ((a : Int) + (j : Int)).toNat = a + j := by omega
          have i4 : (0 : Int) ≤ (a : Int) + (j : Int) - ((k : Int) + 1) := by omega
          have i5 : (a : Int) + (j : Int) - ((k : Int) + 1) < (m : Int) := by omega
          have i6 : ((a : Int) + (j : Int) - ((k : Int) + 1)).toNat = a + j - (k + 1) := by omega
          have w1 : IntKind.i64.wrap ((a : Int) + (j : Int)) = (a : Int) + (j : Int) := IntWalk.i64_in _ (by omega)
          have w2 : IntKind.i64.wrap ((a : Int) + (j : Int) - ((k : Int) + 1)) = (a : Int) + (j : Int) - ((k : Int) + 1) := IntWalk.i64_in _ (by omega)
          have hjI : decide ((j : Int) < (M : Int)) = true := by simp [hj]
          by_cases hq : D.getD (a + j) 0 = D.getD (a + j - (k + 1)) 0
          · have hst := hidden (cmn_step (D := D) (d := k + 1) (a := a) hj hq)
            rw [← hq] at cB
            obtain ⟨y, hy⟩ : ∃ y, D.getD (a + j) 0 = y := ⟨_, rfl⟩
            rw [hy] at cA cB
            replace dR2 := hidden dR2
            clear hq hy yA yB
            gi_wp2
            refine wpIn_wide.2 ?_
            go_quiet (fail)
            gi_wp2
            go_round
            case rel => exact ⟨j + 1, by go_num, by omega, by show _ = _; rw [← hst.out]; exact hLj.out, hX.drewN _⟩
            case measure => simp [intOf]; omega
          · have hst := hidden (cmn_stop (D := D) (d := k + 1) (a := a) hj hq)
            obtain ⟨y, hy⟩ : ∃ y, D.getD (a + j) 0 = y := ⟨_, rfl⟩
            obtain ⟨z, hz⟩ : ∃ z, D.getD (a + j - (k + 1)) 0 = z := ⟨_, rfl⟩
            rw [hy] at cA hq
            rw [hz] at cB hq
            have hyz : (y == z) = false := by simp [hq]
            have hyz2 : decide (y = z) = false := by simp [hq]
            have hfin : Hid (L = j) := by show _ = _; rw [← hLj.out, hst.out]
            replace dR2 := hidden dR2
            clear hq hy hz yA yB hst
            have hln1 : Hid (lnT D a (k + 1) = j) := by show _ = _; rw [hln.out, hL.out, hfin.out]
            by_cases h2 : 2 ≤ j
            · have h2i : (2 : Int) ≤ (j : Int) := by omega
              gi_wp2
              refine wpIn_wide.2 ?_
              go_quiet (fail)
              have gX : Ext wq (wj.drewN nq) := hX.drewN _
              have hY1 := hY (cps D a k) (k + 1, j) (wj.drewN nq) (hJ _ _ _ none hJs.out gX.grown (fun r e => by cases e)) (by have := cps_len D a k; omega)
              change YieldAt Fence.wide (n - 1) Try.prog l #[.int .i64 ((k : Int) + 1), .int .i64 (j : Int)] (wj.drewN nq) _ at hY1
              obtain ⟨fn, tmps, assign, body, hy, hR'⟩ := hY1
              have gX := hidden gX
              gi_wp2
              refine hR'.mono ?_
              rintro e W3 (⟨rfl, hJ3, hk3, hz3⟩ | ⟨rfl, hJx3⟩)
              · have hz4 := gX.out.size
                have hk4 := hidden (hKp.out.trans ((KeepS.ext gX.out (fun z hz => Nat.lt_of_lt_of_le (hlt z hz) hsz)).trans hk3))
                have hJ4 := hidden hJ3
                clear hJ3 hk3 hy
                gi_wp2
                go_roundw
                case rel => exact ⟨k + 1, by omega, by go_num, by rw [cps_yes D a k (by rw [hln1.out]; exact h2), hln1.out]; exact hJ4.out, hk4.out, by omega⟩
                case measure => simp [intOf]; omega
              · have hJ4 := hidden hJx3
                clear hJx3 hy
                gi_wp2
                refine bodyPost_ret (v := .tuple #[]) (by simp [results, Try.f56, go_sem]) rfl ⟨⟨_, rfl⟩, .inr ⟨_, ⟨k + 1, by omega, by rw [cps_yes D a k (by rw [hln1.out]; exact h2), hln1.out]⟩, hJ4.out⟩⟩
            · have h2i : ¬ (2 : Int) ≤ (j : Int) := by omega
              gi_wp2
              refine wpIn_wide.2 ?_
              go_quiet (fail)
              have gX : Ext wq (wj.drewN nq) := hX.drewN _
              have gX := hidden gX
              gi_wp2
              refine ⟨fun _ h => (by cases h), ?_⟩
              have hz4 := gX.out.size
              have hk4 := hidden (hKp.out.trans (KeepS.ext gX.out (fun z hz => Nat.lt_of_lt_of_le (hlt z hz) hsz)))
              have hJ4 := hidden (hJ _ _ _ none hJs.out gX.out.grown (fun r e => by cases e))
              gi_wp2
              go_roundw
              case rel => exact ⟨k + 1, by omega, by go_num, by rw [cps_no D a k (by rw [hln1.out]; omega)]; exact hJ4.out, hk4.out, by omega⟩
              case measure => simp [intOf]; omega
        · have hfin : Hid (L = j) := by show _ = _; rw [← hLj.out, show M - j = 0 by omega]; rfl
          have hjI : decide ((j : Int) < (M : Int)) = false := by simp; omega
          have hln1 : Hid (lnT D a (k + 1) = j) := by show _ = _; rw [hln.out, hL.out, hfin.out]
          by_cases h2 : 2 ≤ j
          · have h2i : (2 : Int) ≤ (j : Int) := by omega
            gi_wp2
            refine wpIn_wide.2 ?_
            go_quiet (fail)
            have gX : Ext wq (wj.drewN nq) := hX.drewN _
            have hY1 := hY (cps D a k) (k + 1, j) (wj.drewN nq) (hJ _ _ _ none hJs.out gX.grown (fun r e => by cases e)) (by have := cps_len D a k; omega)
            change YieldAt Fence.wide (n - 1) Try.prog l #[.int .i64 ((k : Int) + 1), .int .i64 (j : Int)] (wj.drewN nq) _ at hY1
            obtain ⟨fn, tmps, assign, body, hy, hR'⟩ := hY1
            have gX := hidden gX
            gi_wp2
            refine hR'.mono ?_
            rintro e W3 (⟨rfl, hJ3, hk3, hz3⟩ | ⟨rfl, hJx3⟩)
            · have hz4 := gX.out.size
              have hk4 := hidden (hKp.out.trans ((KeepS.ext gX.out (fun z hz => Nat.lt_of_lt_of_le (hlt z hz) hsz)).trans hk3))
              have hJ4 := hidden hJ3
              clear hJ3 hk3 hy
              gi_wp2
              go_roundw
              case rel => exact ⟨k + 1, by omega, by go_num, by rw [cps_yes D a k (by rw [hln1.out]; exact h2), hln1.out]; exact hJ4.out, hk4.out, by omega⟩
              case measure => simp [intOf]; omega
            · have hJ4 := hidden hJx3
              clear hJx3 hy
              gi_wp2
              refine bodyPost_ret (v := .tuple #[]) (by simp [results, Try.f56, go_sem]) rfl ⟨⟨_, rfl⟩, .inr ⟨_, ⟨k + 1, by omega, by rw [cps_yes D a k (by rw [hln1.out]; exact h2), hln1.out]⟩, hJ4.out⟩⟩
          · have h2i : ¬ (2 : Int) ≤ (j : Int) := by omega
            gi_wp2
            refine wpIn_wide.2 ?_
            go_quiet (fail)
            have gX : Ext wq (wj.drewN nq) := hX.drewN _
            have gX := hidden gX
            gi_wp2
            refine ⟨fun _ h => (by cases h), ?_⟩
            have hz4 := gX.out.size
            have hk4 := hidden (hKp.out.trans (KeepS.ext gX.out (fun z hz => Nat.lt_of_lt_of_le (hlt z hz) hsz)))
            have hJ4 := hidden (hJ _ _ _ none hJs.out gX.out.grown (fun r e => by cases e))
            gi_wp2
            go_roundw
            case rel => exact ⟨k + 1, by omega, by go_num, by rw [cps_no D a k (by rw [hln1.out]; omega)]; exact hJ4.out, hk4.out, by omega⟩
            case measure => simp [intOf]; omega
    · have k1 : ¬ (k : Int) + 1 ≤ (K : Int) := by omega
      have k2 : k = K := by omega
      have k2 := hidden k2
      gi_wp2
      go_end0
      exact ⟨⟨_, rfl⟩, .inl (by have := hJs.out; rw [k2.out] at this; exact this)⟩
end Go.Proofs.Ytlnlffmlficjnaa
