/- Layer 32: Find: its closures, search. -/
import Derived.Test.YtfebgcbkadmgiaaSfv
namespace Go.Proofs.Ytfebgcbkadmgiaa
open Go.RowKit
set_option linter.unusedVariables false
set_option linter.unusedSimpArgs false
attribute [local go_sem ↓] Go.wp_at_zero Go.wp_at_succ

theorem cmpL_gt : ∀ a b : List Int, 0 < cmpL a b ↔ Suf.lt b a = true
  | [], [] => by simp [cmpL, Suf.lt]
  | [], _ :: _ => by simp [cmpL, Suf.lt]
  | _ :: _, [] => by simp [cmpL, Suf.lt]
  | x :: a, y :: b => by
    have ih := cmpL_gt a b
    rw [Suf.lt_cons]
    unfold cmpL
    by_cases h1 : x < y
    · rw [if_pos h1, if_neg (by omega), if_pos h1]; simp
    · rw [if_neg h1]
      by_cases h2 : y < x
      · rw [if_pos h2, if_pos h2]; simp
      · rw [if_neg h2, if_neg h2, if_neg h1]; exact ih
theorem cmp_lo (x S : List Int) : decide (0 ≤ cmpL x S) = !Suf.qlo x S := by
  unfold Suf.qlo
  have := cmpL_lt x S
  cases h : Suf.lt x S with
  | true => rw [h] at this; exact decide_eq_false (by have := this.2 rfl; omega)
  | false => rw [h] at this; exact decide_eq_true (by have h2 := this.1; have : ¬ cmpL x S < 0 := fun h3 => by cases h2 h3
                                                      omega)
theorem cmp_hi (x S : List Int) : decide (0 < cmpL x S) = !Suf.qhi x S := by
  unfold Suf.qhi
  have := cmpL_gt x S
  cases h : Suf.lt S x with
  | true => rw [h] at this; exact decide_eq_true (this.2 rfl)
  | false => rw [h] at this; exact decide_eq_false (fun h3 => by cases this.1 h3)

/-- What Find's closures read. -/
structure FM (w : World) (b P : List Int) (o : List Nat) (n L ob bb pb fb p c1 : Nat) (vb vP : Value) : Prop where
  hob : w.cell? ⟨ob, 0, none⟩ = some (.slice (some ⟨p, 0, none⟩) (n + 1) c1)
  hbb : w.cell? ⟨bb, 0, none⟩ = some vb
  hpb : w.cell? ⟨pb, 0, none⟩ = some vP
  hfb : w.cell? ⟨fb, 0, none⟩ = some (.func (.func 25) #[] #[.pointer (some ⟨ob, 0, none⟩), .pointer (some ⟨bb, 0, none⟩), .pointer (some ⟨pb, 0, none⟩)])
  ho : ∀ r, r ≤ n → w.cell? ⟨p, r, none⟩ = some (.int .i64 (o.getD r 0 : Int))
  hle : ∀ r, r ≤ n → o.getD r 0 ≤ n
  hb : Rd8 w vb b
  hP : Rd8 w vP P
  hn : b.length = n
  hL : P.length = L
theorem FM.drewN {w : World} {b P : List Int} {o : List Nat} {n L ob bb pb fb p c1 : Nat} {vb vP : Value} (h : FM w b P o n L ob bb pb fb p c1 vb vP) (m : Nat) : FM (w.drewN m) b P o n L ob bb pb fb p c1 vb vP :=
  have hX : Ext w (w.drewN m) := (Ext.refl w).drewN m
  ⟨hX.cell h.hob, hX.cell h.hbb, hX.cell h.hpb, hX.cell h.hfb, fun r hr => hX.cell (h.ho r hr), h.hle, Rd.ext h.hb hX, Rd.ext h.hP hX, h.hn, h.hL⟩

set_option maxRecDepth 100000 in
theorem begin_any {w : World} {b P : List Int} {o : List Nat} {n L ob bb pb fb p c1 : Nat} {vb vP : Value} (h : FM w b P o n L ob bb pb fb p c1 vb vP) (hn : n ≤ 1000) (hL : L ≤ 1000) (r : Nat) (hr : r ≤ n) :
    ∃ v, (∀ m, Calls Try.prog 25 #[.int .i64 (r : Int), .pointer (some ⟨ob, 0, none⟩), .pointer (some ⟨bb, 0, none⟩), .pointer (some ⟨pb, 0, none⟩)] (w.drewN m) fun e w' => e = .returned v ∧ w' = w.drewN m) ∧ Rd8 w v (Suf.pre b L (o.getD r 0)) := by
  obtain ⟨ad, cap, hvb, q1, q2, q3⟩ := Rd.shape h.hb
  obtain ⟨pd, cp, hvP, -, -, -⟩ := Rd.shape h.hP
  subst hvb hvP
  rw [h.hn] at *
  rw [h.hL] at *
  have hq := h.hle r hr
  obtain ⟨q, hqe⟩ : ∃ q, o.getD r 0 = q := ⟨_, rfl⟩
  rw [hqe] at hq ⊢
  obtain ⟨e, he⟩ : ∃ e, min n (q + L) = e := ⟨_, rfl⟩
  obtain ⟨a2, c2, hrun, Rr⟩ := cut_lh (P := Try.prog) (t := 22) Try.underlying22 Try.sizeOf5 (show Rd w 1 (.slice ad n cap) n (bs b) from by have := h.hb; unfold Rd8 at this; rw [h.hn] at this; exact this) q e (q : Int) (e : Int) rfl rfl (by omega) (by omega)
  refine ⟨.slice a2 (e - q) c2, fun m => ?_, ?_⟩
  · have X : Ext w (w.drewN m) := (Ext.refl w).drewN m
    have c0 := X.cell h.hob
    have c3 := X.cell h.hbb
    have c4 := X.cell h.hpb
    have c5 := X.cell (h.ho r hr)
    rw [hqe] at c5
    have v1 : IntKind.i64.wrap ((q : Int) + (L : Int)) = (q : Int) + (L : Int) := IntWalk.i64_in _ (by omega)
    have v2 : (r : Int) < (n : Int) + 1 := by omega
    have v3 : min (n : Int) ((q : Int) + (L : Int)) = (e : Int) := by omega
    obtain ⟨W, hW⟩ : ∃ W, w.drewN m = W := ⟨_, rfl⟩
    rw [hW] at c0 c3 c4 c5 ⊢
    clear X hW h hqe he
    go_enter Try.func25, Try.ntmps25
    go_wp2_with fail
    go_ret
    exact ⟨rfl, rfl⟩
  · have hl : (Suf.pre b L q).length = e - q := by rw [Suf.pre_len, h.hn, ← he]; omega
    unfold Rd8
    rw [hl, show bs (Suf.pre b L q) = ((bs b).drop (q * 1)).take ((e - q) * 1) from ?_]
    · exact Rr
    · unfold Suf.pre bs
      rw [Nat.mul_one, Nat.mul_one, ← List.map_drop, ← List.map_take]
      congr 1
      have hd : (b.drop q).length = n - q := by rw [List.length_drop, h.hn]
      by_cases hc : q + L ≤ n
      · rw [show e - q = L by omega]
      · rw [List.take_of_length_le (by omega), List.take_of_length_le (by omega)]
set_option maxRecDepth 100000 in
theorem find2_any {w : World} {b P : List Int} {o : List Nat} {n L ob bb pb fb p c1 : Nat} {vb vP : Value} (h : FM w b P o n L ob bb pb fb p c1 vb vP) (hn : n ≤ 1000) (hL : L ≤ 1000) (r : Nat) (hr : r ≤ n) (m : Nat) :
    Calls Try.prog 26 #[.int .i64 (r : Int), .pointer (some ⟨fb, 0, none⟩), .pointer (some ⟨pb, 0, none⟩)] (w.drewN m) fun e w' => e = .returned (.bool (!Suf.qlo (Suf.pre b L (o.getD r 0)) P)) ∧ ∃ k, w' = w.drewN k := by
  obtain ⟨v, hc, hR⟩ := begin_any (h.drewN m) hn hL r hr
  have hs := fun k => scompare_any v vP _ P (by rw [Suf.pre_len]; omega) ((w.drewN m).drewN k) (Rd.ext hR ((Ext.refl _).drewN k)) (Rd.ext (h.drewN m).hP ((Ext.refl _).drewN k))
  have c0 := (h.drewN m).hfb
  have c1 := (h.drewN m).hpb
  rw [← cmp_lo]
  obtain ⟨c, hcc⟩ : ∃ c, cmpL (Suf.pre b L (o.getD r 0)) P = c := ⟨_, rfl⟩
  rw [hcc] at hs ⊢
  replace hc := hidden hc
  replace hs := hidden hs
  have key : Hid (∀ k, ∃ k', (w.drewN m).drewN k = w.drewN k') := hidden (fun k => ⟨m + k, by rw [World.drewN_drewN]⟩)
  obtain ⟨W, hW⟩ : ∃ W, w.drewN m = W := ⟨_, rfl⟩
  rw [hW] at c0 c1 hc hs key ⊢
  clear hcc hR h hW
  go_enter Try.func26, Try.ntmps26
  go_upto_region 1 with fail
  go_quiet (first | (go_at_call 25; exact Calls.quiet_of_same (hc.out _)) | (go_at_call 27; exact Calls.quiet_of_same (hs.out _)))
  go_wp2_with fail
  go_ret
  exact ⟨rfl, key.out _⟩
set_option maxRecDepth 100000 in
theorem find3_any {w : World} {b P : List Int} {o : List Nat} {n L ob bb pb fb p c1 : Nat} {vb vP : Value} (h : FM w b P o n L ob bb pb fb p c1 vb vP) (hn : n ≤ 1000) (hL : L ≤ 1000) (r : Nat) (hr : r ≤ n) (m : Nat) :
    Calls Try.prog 28 #[.int .i64 (r : Int), .pointer (some ⟨fb, 0, none⟩), .pointer (some ⟨pb, 0, none⟩)] (w.drewN m) fun e w' => e = .returned (.bool (!Suf.qhi (Suf.pre b L (o.getD r 0)) P)) ∧ ∃ k, w' = w.drewN k := by
  obtain ⟨v, hc, hR⟩ := begin_any (h.drewN m) hn hL r hr
  have hs := fun k => scompare_any v vP _ P (by rw [Suf.pre_len]; omega) ((w.drewN m).drewN k) (Rd.ext hR ((Ext.refl _).drewN k)) (Rd.ext (h.drewN m).hP ((Ext.refl _).drewN k))
  have c0 := (h.drewN m).hfb
  have c1 := (h.drewN m).hpb
  rw [← cmp_hi]
  obtain ⟨c, hcc⟩ : ∃ c, cmpL (Suf.pre b L (o.getD r 0)) P = c := ⟨_, rfl⟩
  rw [hcc] at hs ⊢
  replace hc := hidden hc
  replace hs := hidden hs
  have key : Hid (∀ k, ∃ k', (w.drewN m).drewN k = w.drewN k') := hidden (fun k => ⟨m + k, by rw [World.drewN_drewN]⟩)
  obtain ⟨W, hW⟩ : ∃ W, w.drewN m = W := ⟨_, rfl⟩
  rw [hW] at c0 c1 hc hs key ⊢
  clear hcc hR h hW
  go_enter Try.func28, Try.ntmps28
  go_upto_region 1 with fail
  go_quiet (first | (go_at_call 25; exact Calls.quiet_of_same (hc.out _)) | (go_at_call 27; exact Calls.quiet_of_same (hs.out _)))
  go_wp2_with fail
  go_ret
  exact ⟨rfl, key.out _⟩
/-- The first row for which something holds. -/
theorem search_any (g t n x y : Nat) (ht : t ≤ n) (hn : n ≤ 2000) (w : World) (hent : ∀ args w, (callFunc g args).run Try.prog w = .ok (.enter g args) w)
    (hf : ∀ r, r < n → ∀ m, Calls Try.prog g #[.int .i64 (r : Int), .pointer (some ⟨x, 0, none⟩), .pointer (some ⟨y, 0, none⟩)] (w.drewN m) fun e w' => e = .returned (.bool (decide (t ≤ r))) ∧ ∃ k, w' = w.drewN k) :
    Calls Try.prog 29 #[.int .i64 (n : Int), .func (.func g) #[] #[.pointer (some ⟨x, 0, none⟩), .pointer (some ⟨y, 0, none⟩)]] w fun e w' => e = .returned (.int .i64 (t : Int)) ∧ ∃ k, w' = w.drewN k := by
  replace hf := hidden hf
  have ht0 : Hid (t ≤ n) := hidden ht
  go_enter Try.func29, Try.ntmps29
  go_wp2_with fail
  go_loopw [5, 6] (fun lo hi wr => ∃ l h : Nat, lo = .int .i64 (l : Int) ∧ hi = .int .i64 (h : Int) ∧ l ≤ t ∧ t ≤ h ∧ h ≤ n ∧ Hid (∃ k, wr = w.drewN k)) (fun lo hi _ => (intOf hi).toNat - (intOf lo).toNat)
  case atStart => exact ⟨0, n, rfl, rfl, by omega, ht0.out, by omega, hidden ⟨0, rfl⟩⟩
  case round =>
    obtain ⟨l, h, rfl, rfl, h1, h2, h3, hk⟩ := hrel
    by_cases hlt : l < h
    · obtain ⟨m, hm⟩ : ∃ m, (l + h) / 2 = m := ⟨_, rfl⟩
      have e1 : (l : Int) < (h : Int) := by omega
      have v1 : IntKind.i64.wrap ((l : Int) + (h : Int)) = (l : Int) + (h : Int) := IntWalk.i64_in _ (by omega)
      have v2 : IntKind.i64.wrap (((l : Int) + (h : Int)).tdiv 2) = (m : Int) := by rw [Int.tdiv_eq_ediv_of_nonneg (by omega), IntWalk.i64_in _ (by omega)]; omega
      have v3 : IntKind.i64.wrap ((m : Int) + 1) = (m : Int) + 1 := IntWalk.i64_in _ (by omega)
      have m1 : l ≤ m := by omega
      have m2 : m < h := by omega
      obtain ⟨k, rfl⟩ := hk.out
      have hc := hf.out m (by omega) k
      replace hc := hidden hc
      clear hm
      go_wp2_with fail
      refine hc.out.mono ?_
      rintro e w1 ⟨rfl, k1, rfl⟩
      have hk2 : Hid (∃ k, (w.drewN k1) = w.drewN k) := hidden ⟨k1, rfl⟩
      by_cases htm : t ≤ m
      · have d1 : decide (t ≤ m) = true := decide_eq_true htm
        rw [d1]
        go_wp2_with fail
        go_roundw
        case rel => exact ⟨l, m, rfl, rfl, h1, htm, by omega, hk2⟩
        case measure => simp [intOf]; omega
      · have d1 : decide (t ≤ m) = false := decide_eq_false htm
        rw [d1]
        go_wp2_with fail
        go_roundw
        case rel => exact ⟨m + 1, h, by go_num, rfl, by omega, h2, h3, hk2⟩
        case measure => simp [intOf]; omega
    · have e1 : decide ((l : Int) < (h : Int)) = false := decide_eq_false (by omega)
      obtain rfl : l = t := by omega
      go_wp2_with fail
      go_ret
      exact ⟨rfl, hk.out⟩
end Go.Proofs.Ytfebgcbkadmgiaa
