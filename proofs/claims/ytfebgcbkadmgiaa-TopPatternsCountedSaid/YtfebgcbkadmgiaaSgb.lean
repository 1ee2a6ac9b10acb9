/- TopPatternsCounted: the walk of the law. -/
import Derived.Test.YtfebgcbkadmgiaaSga
namespace Go.Proofs.Ytfebgcbkadmgiaa
open Go.RowKit
set_option linter.unusedVariables false
set_option linter.unusedSimpArgs false
attribute [local go_sem ↓] Go.wp_at_zero Go.wp_at_succ

set_option maxRecDepth 100000 in
theorem hasp_any (va vb : Value) (a b : List Int) (ha : Bytes a) (hb : Bytes b) (w : World) (h1 : Rd8 w va a) (h2 : Rd8 w vb b) :
    Calls Try.prog 13 #[va, vb] w fun e w' => e = .returned (.bool (decide (a.take b.length = b))) ∧ Ext w w' := by
  obtain ⟨n, hn⟩ : ∃ n, a.length = n := ⟨_, rfl⟩
  obtain ⟨m, hm⟩ : ∃ m, b.length = m := ⟨_, rfl⟩
  obtain ⟨ad, ca, rfl, p1, p2, p3⟩ := Rd.shape h1
  obtain ⟨bd, cb, rfl, q1, q2, q3⟩ := Rd.shape h2
  by_cases hlt : m ≤ n
  · obtain ⟨a2, c2, hrun, Rr⟩ := cut_h (P := Try.prog) (t := 22) Try.underlying22 Try.sizeOf5 (show Rd w 1 (.slice ad n ca) n (bs a) from by have := h1; unfold Rd8 at this; rw [hn] at this; exact this) m (m : Int) rfl hlt
    have R8 : Rd8 w (.slice a2 m c2) (a.take m) := by
      unfold Rd8
      rw [List.length_take, hn, Nat.min_eq_left hlt, show bs (a.take m) = (bs a).take (m * 1) by rw [Nat.mul_one]; simp [bs, List.map_take]]
      exact Rr
    have he := bequal_any (.slice a2 m c2) (.slice bd b.length cb) (a.take m) b (fun x hx => ha x (List.mem_of_mem_take hx)) hb w R8 h2
    rw [hm] at he ⊢
    rw [hn]
    have e1 : (m : Int) ≤ (n : Int) := by omega
    replace he := hidden he
    clear h1 h2 Rr R8
    go_enter Try.func13, Try.ntmps13
    go_wp2_with fail
    refine he.out.mono ?_
    rintro e w1 ⟨rfl, hX⟩
    go_wp2_with fail
    go_ret
    exact ⟨rfl, hX⟩
  · have e1 : decide (m ≤ n) = false := decide_eq_false hlt
    have e2 : decide (a.take m = b) = false := decide_eq_false (fun e => by
      have := congrArg List.length e
      rw [List.length_take, hn, hm] at this
      omega)
    rw [hm, hn, e2]
    clear h1 h2 e2
    go_enter Try.func13, Try.ntmps13
    go_wp2_with fail
    go_ret
    exact ⟨rfl, Ext.refl _⟩

theorem bytes_dropP {b : List Int} (hb : Bytes b) (k : Nat) : Bytes (b.drop k) := fun x hx => hb x (List.mem_of_mem_drop hx)
def cntU (b P : List Int) (k : Nat) : Nat := (List.range k).countP fun p => decide (Suf.pre b P.length p = P)
theorem cntU_succ (b P : List Int) (k : Nat) : cntU b P (k + 1) = cntU b P k + if Suf.pre b P.length k = P then 1 else 0 := by
  unfold cntU
  rw [List.range_succ, List.countP_append, List.countP_cons, List.countP_nil]
  by_cases h : Suf.pre b P.length k = P <;> simp [h]
theorem cntU_le (b P : List Int) (k : Nat) : cntU b P k ≤ k := by
  unfold cntU
  have := List.countP_le_length (p := fun p => decide (Suf.pre b P.length p = P)) (l := List.range k)
  rwa [List.length_range] at this

set_option maxRecDepth 100000 in
set_option maxHeartbeats 4000000 in
theorem TopPatternsCounted_law (v : Value) (b : List Int) (vP : Value) (P : List Int) (hb : Bytes b) (hP : Bytes P) (w : World) (hr : Rd8 w v b) (hrP : Rd8 w vP P) :
    Calls Try.prog 4 #[v, vP] w fun e w' => e = .returned (.bool true) ∧ Ext w w' := by
  obtain ⟨n, hne⟩ : ∃ n, b.length = n := ⟨_, rfl⟩
  obtain ⟨L, hLe⟩ : ∃ L, P.length = L := ⟨_, rfl⟩
  obtain ⟨ad, cap, rfl, q1, q2, q3⟩ := Rd.shape hr
  obtain ⟨pd, cp, rfl, p1, p2, p3⟩ := Rd.shape hrP
  by_cases hn : 150 < n
  · rw [hne] at q1 ⊢
    rw [hLe] at p1 ⊢
    have hn1 : (150 : Int) < (n : Int) := by omega
    go_enter Try.func4, Try.ntmps4
    go_wp2_with fail
    go_ret
    exact ⟨rfl, Ext.refl _⟩
  by_cases hL : 50 < L
  · rw [hne] at q1 ⊢
    rw [hLe] at p1 ⊢
    have hn1 : decide ((150 : Int) < (n : Int)) = false := decide_eq_false (by omega)
    have hn2 : (50 : Int) < (L : Int) := by omega
    go_enter Try.func4, Try.ntmps4
    go_wp2_with fail
    go_ret
    exact ⟨rfl, Ext.refl _⟩
  have hn1 : decide ((150 : Int) < (n : Int)) = false := decide_eq_false (by omega)
  have hn2 : decide ((50 : Int) < (L : Int)) = false := decide_eq_false (by omega)
  have hsort := sort_any _ b hb (by omega) w hr
  have hfwd := fun W (hX : Ext w W) => forward_any _ b hb (by omega) W (Rd.ext hr hX)
  have hfind := fun o (h : Suf.IsSA b o) p c1 W (hX : Ext w W) (hp : Blk W p 3 (nv o)) => find_any _ _ b P o h hb (by omega) (by omega) p c1 W (Rd.ext hr hX) (Rd.ext hrP hX) hp
  have hcount := fun v o (h : Suf.IsSA b o) W (hX : Ext w W) (hv : Rd8 W v (Suf.tr b o)) => count_any v _ b P o hb hP h (by omega) (by omega) W hv (Rd.ext hrP hX)
  have hR : Hid (Rd8 w (.slice ad n cap) b) := hidden (by rw [← hne]; exact hr)
  have hRP : Hid (Rd8 w (.slice pd L cp) P) := hidden (by rw [← hLe]; exact hrP)
  rw [hne] at q1 hsort hfwd hfind ⊢
  rw [hLe] at p1 hfind hcount ⊢
  have hsum := Suf.cq_sum b P
  have hl1 := Suf.cq_le Suf.qhi b P
  rw [hne] at hl1
  obtain ⟨lo, hlo⟩ : ∃ lo, Suf.cq Suf.qlo b P = lo := ⟨_, rfl⟩
  obtain ⟨hi, hhi⟩ : ∃ hi, Suf.cq Suf.qhi b P = hi := ⟨_, rfl⟩
  have hcn : cntU b P (n + 1) = Suf.cnt b P := by unfold cntU Suf.cnt; rw [hne]
  obtain ⟨c0, hc0⟩ : ∃ c0, Suf.cnt b P = c0 := ⟨_, rfl⟩
  rw [hlo] at hsum hfind
  rw [hhi] at hsum hfind hl1
  rw [hc0] at hsum hcount hcn
  clear hr hrP hlo hhi hc0
  replace hb := hidden hb
  replace hP := hidden hP
  replace hsort := hidden hsort
  replace hfwd := hidden hfwd
  replace hfind := hidden hfind
  replace hcount := hidden hcount
  replace hcn := hidden hcn
  replace hsum := hidden hsum
  replace hne := hidden hne
  replace hLe := hidden hLe
  have w1 : IntKind.i64.wrap ((n : Int) + 1) = (n : Int) + 1 := IntWalk.i64_in _ (by omega)
  go_enter Try.func4, Try.ntmps4
  go_wp2_with fail
  refine hsort.out.mono ?_
  rintro e w1 ⟨o, p, c1, rfl, hsa, hp, hpw, hc1, hc2, hX1⟩
  have hf1 := hfind.out o hsa p c1 w1 hX1 hp
  rw [hne.out]
  clear hsort hfind hp hc1
  replace hsa := hidden hsa
  replace hX1 := hidden hX1
  replace hf1 := hidden hf1
  go_wp2_with fail
  refine hf1.out.mono ?_
  rintro e w2 ⟨rfl, hX2⟩
  have hX3 := hX1.out.trans hX2
  have hf2 := hfwd.out w2 hX3
  clear hf1 hX1 hX2 hfwd
  replace hf2 := hidden hf2
  replace hX3 := hidden hX3
  go_wp2_with fail
  refine hf2.out.mono ?_
  rintro e w3 ⟨o3, v3, rfl, hsa3, hO3, hX4⟩
  have hX5 := hX3.out.trans hX4
  have hf3 := hcount.out v3 o3 hsa3 w3 hX5 (Own8.rd hO3)
  obtain ⟨rk0, hrk0⟩ : ∃ r, Suf.rk b 0 = r := ⟨_, rfl⟩
  rw [hrk0] at hf3 ⊢
  clear hf2 hX3 hX4 hcount hO3 hsa hsa3 hrk0
  replace hf3 := hidden hf3
  replace hX5 := hidden hX5
  go_wp2_with fail
  refine hf3.out.mono ?_
  rintro e w4 ⟨rfl, hX6⟩
  have hX7 := hX5.out.trans hX6
  clear hf3 hX5 hX6
  replace hX7 := hidden hX7
  go_wp2_with fail
  go_loopw [15, 54] (fun c i wr => ∃ k : Nat, i = .int .i64 (k : Int) ∧ k ≤ n + 1 ∧ c = .int .i64 (cntU b P k : Int) ∧ Hid (Ext w wr)) (fun _ i _ => n + 1 - (intOf i).toNat)
  case atStart => exact ⟨0, rfl, by omega, rfl, hX7⟩
  case round =>
    clear hX7
    obtain ⟨k, rfl, hk, rfl, hX⟩ := hrel
    have v1 : IntKind.i64.wrap ((k : Int) + 1) = (k : Int) + 1 := IntWalk.i64_in _ (by omega)
    have hcl := cntU_le b P k
    by_cases hlt : k < n + 1
    · have e1 : (k : Int) < (n : Int) + 1 := by omega
      obtain ⟨a2, c2, hrun, Rr, -⟩ := cut_l (P := Try.prog) (t := 22) Try.underlying22 Try.sizeOf5 (show Rd w 1 (.slice ad n cap) n (bs b) from by have := hR.out; unfold Rd8 at this; rw [hne.out] at this; exact this) k (k : Int) rfl (by omega)
      rw [Nat.mul_one] at Rr
      have R8 : Rd8 w (.slice a2 (n - k) c2) (b.drop k) := by unfold Rd8; rw [List.length_drop, hne.out, show bs (b.drop k) = (bs b).drop k by simp [bs]]; exact Rr
      have hh := hasp_any _ _ (b.drop k) P (bytes_dropP hb.out k) hP.out wr (Rd.ext R8 hX.out) (Rd.ext hRP.out hX.out)
      have hsc := cntU_succ b P k
      unfold Suf.pre at hsc
      obtain ⟨q, hq⟩ : ∃ q, cntU b P k = q := ⟨_, rfl⟩
      rw [hq] at hsc hcl ⊢
      have v2 : IntKind.i64.wrap ((q : Int) + 1) = (q : Int) + 1 := IntWalk.i64_in _ (by omega)
      replace hh := hidden hh
      replace hsc := hidden hsc
      clear Rr R8 hq
      go_wp2_with fail
      refine hh.out.mono ?_
      rintro e w5 ⟨rfl, hX5⟩
      have hX6 := hX.out.trans hX5
      replace hX6 := hidden hX6
      by_cases hc : (b.drop k).take P.length = P
      · have hsc2 := hsc.out
        rw [if_pos hc] at hsc2
        rw [decide_eq_true hc]
        replace hsc2 := hidden hsc2
        clear hsc hc hh
        go_wp2_with fail
        go_roundw
        case rel => exact ⟨k + 1, by go_num, by omega, by rw [hsc2.out]; go_num, hX6⟩
        case measure => simp [intOf]; omega
      · have hsc2 := hsc.out
        rw [if_neg hc] at hsc2
        rw [decide_eq_false hc]
        replace hsc2 := hidden hsc2
        clear hsc hc hh
        go_wp2_with fail
        go_roundw
        case rel => exact ⟨k + 1, by go_num, by omega, by rw [hsc2.out]; rfl, hX6⟩
        case measure => simp [intOf]; omega
    · have hkn : k = n + 1 := by omega
      have e1 : decide ((k : Int) < (n : Int) + 1) = false := decide_eq_false (by omega)
      subst hkn
      rw [hcn.out]
      have hs2 := hsum.out
      have v3 : IntKind.i64.wrap ((hi : Int) - (lo : Int)) = (c0 : Int) := by rw [IntWalk.i64_in _ (by omega)]; omega
      have e2 : ((n + 1 : Nat) : Int) = (n : Int) + 1 := by omega
      rw [e2]
      clear hs2 e1 v1 hcl
      go_wp2_with fail
      go_ret
      exact ⟨rfl, hX.out⟩
end Go.Proofs.Ytfebgcbkadmgiaa
