/- Layer 33: newRows, Inverse; the way of the transform of a byte string. -/
import Derived.Test.YtfebgcbkadmgiaaSfr
namespace Go.Proofs.Ytfebgcbkadmgiaa
open Go.RowKit
set_option linter.unusedVariables false
set_option linter.unusedSimpArgs false
attribute [local go_sem ↓] Go.wp_at_zero Go.wp_at_succ

def NewRowsP (w : World) (v : Value) (pr : Int) (e : Ending) (w' : World) : Prop := e = .returned (.tuple #[.agg #[v, .int .i64 pr], .int .i64 0]) ∧ Ext w w'
set_option maxRecDepth 100000 in
theorem newRows_any (ad : Option Addr) (n cap pr : Nat) (hn : n ≤ 1000) (hpr : pr ≤ n) (w : World) :
    Calls Try.prog 22 #[.slice ad n cap, .int .i64 (pr : Int)] w (NewRowsP w (.slice ad n cap) (pr : Int)) := by
  have v1 : ¬ (pr : Int) < 0 := by omega
  have v2 : ¬ (n : Int) < (pr : Int) := by omega
  have v3 : ¬ (65536 : Int) < (n : Int) := by omega
  go_enter Try.func22, Try.ntmps22
  go_wp2_with fail
  refine bodyPost_ret (v := .tuple #[.agg #[.slice ad n cap, .int .i64 (pr : Int)], .int .i64 0]) ?_ rfl ⟨rfl, (Ext.refl w).alloc _⟩
  simp [results, Try.f22, go_sem]

set_option maxRecDepth 100000 in
theorem inverse1_any (v : Value) (D : List Int) (pr n : Nat) (hb : Bytes D) (hne : D.length = n) (hn : n ≤ 1000) (hpr : pr ≤ n) (ro : Nat → Nat) (hway : Way D pr n ro) (w : World) (hr : Rd8 w v D) :
    Calls Try.prog 9 #[v, .int .i64 (pr : Int)] w (InvP w (outW D pr ro (List.finRange n)).reverse) := by
  obtain ⟨ad, cap, rfl, q1, q2, q3⟩ := Rd.shape hr
  have hin := fun W (hW : Rd8 W (.slice ad D.length cap) D) => inverse_any (.slice ad D.length cap) D pr n hb hne hn hpr ro hway W hW
  rw [hne] at hin ⊢
  have hR : Hid (Rd8 w (.slice ad n cap) D) := hidden (by rw [← hne]; exact hr)
  have hnr := newRows_any ad n cap pr hn hpr w
  replace hin := hidden hin
  replace hnr := hidden hnr
  clear hr
  go_enter Try.func9, Try.ntmps9
  go_wp2_with fail
  refine hnr.out.mono ?_
  rintro e w1 ⟨rfl, hX⟩
  go_wp2_with fail
  have hX2 : Ext w (w1.alloc (.cells #[.slice ad n cap, .int .i64 (pr : Int)] 46)) := hX.alloc _
  refine (hin.out _ (Rd.ext hR.out hX2)).mono ?_
  rintro e w2 ⟨v2, rfl, hO, hX3⟩
  go_wp2_with fail
  refine bodyPost_ret (results_tmp2 rfl _ _ _) rfl ?_
  exact ⟨_, rfl, own_mono hO hX2.size, hX2.trans hX3⟩
theorem rowI_atI {pr r : Nat} (h : r ≠ pr) : rowI pr (atI pr r) = r := by
  unfold rowI atI
  split <;> split <;> omega
theorem atI_lt {pr r n : Nat} (h : r ≠ pr) (hr : r ≤ n) (hp : pr ≤ n) : atI pr r < n := by
  unfold atI
  split <;> omega
theorem sa_way {b : List Int} (hb : Bytes b) {o : List Nat} (h : Suf.IsSA b o) {n : Nat} (hn : b.length = n) : Way (Suf.tr b o) (Suf.rk b 0) n (fun k => Suf.rk b (n - k)) := by
  have hol := h.len
  have hle : ∀ p, p ≤ n → Suf.rk b p ≤ n := fun p hp => by
    obtain ⟨h1, -⟩ := h.at_ (p := p) (by omega)
    omega
  have hne : ∀ k, k < n → Suf.rk b (n - k) ≠ Suf.rk b 0 := fun k hk e => by
    have := Suf.rk_inj (by omega) (by omega) e
    omega
  refine ⟨?_, ?_, fun k hk => hle _ (by omega), hne, fun k hk => ?_, fun j k hj hk e => ?_⟩
  · show Suf.rk b (n - 0) = 0
    rw [Nat.sub_zero, ← hn]; exact Suf.rk_end b
  · show Suf.rk b (n - n) = _
    rw [Nat.sub_self]
  · have hr := hne k hk
    have hi := atI_lt hr (hle (n - k) (by omega)) (hle 0 (by omega))
    obtain ⟨hr2, hl⟩ := lk_row hb h hn hi
    have e := rowI_atI hr
    simp only [e] at hl hr2
    obtain ⟨h1, h2⟩ := h.at_ (p := n - k) (by omega)
    rw [h2] at hl
    show (lkF (Suf.tr b o) (Suf.rk b 0) (List.finRange n)).1.getD (Suf.rk b (n - k)) 0 = (Suf.rk b (n - (k + 1)) : Int)
    rw [hl]
    rfl
  · have := Suf.rk_inj (b := b) (p := n - j) (q := n - k) (by omega) (by omega) e
    omega
theorem sa_out {b : List Int} {o : List Nat} (h : Suf.IsSA b o) {n : Nat} (hn : b.length = n) : (outW (n := n) (Suf.tr b o) (Suf.rk b 0) (fun k => Suf.rk b (n - k)) (List.finRange n)).reverse = b := by
  have hol := h.len
  refine List.ext_getElem (by rw [List.length_reverse, outW_len]; simp [hn]) fun i h1 h2 => ?_
  have hin : i < n := by omega
  rw [List.getElem_reverse]
  unfold outW
  rw [List.getElem_map, List.getElem_finRange]
  simp only [List.length_map, List.length_finRange, Fin.val_cast]
  obtain ⟨k, hk⟩ : ∃ k, n - 1 - i = k := ⟨_, rfl⟩
  rw [hk]
  have hne : Suf.rk b (n - k) ≠ Suf.rk b 0 := fun e => by
    have := Suf.rk_inj (by omega) (by omega) e
    omega
  have hle : ∀ p, p ≤ n → Suf.rk b p ≤ n := fun p hp => by
    obtain ⟨h1, -⟩ := h.at_ (p := p) (by omega)
    omega
  have hi := atI_lt hne (hle (n - k) (by omega)) (hle 0 (by omega))
  obtain ⟨hr2, -, -, hg⟩ := row_of h (i := atI (Suf.rk b 0) (Suf.rk b (n - k))) (by omega)
  have e := rowI_atI hne
  simp only [e] at hg hr2
  obtain ⟨h3, h4⟩ := h.at_ (p := n - k) (by omega)
  rw [h4] at hg
  rw [hg, List.getD_eq_getElem?_getD, show n - k - 1 = i by omega, List.getElem?_eq_getElem (by omega)]
  rfl
/-- Inverse behind Forward. -/
theorem inverse2_any (v : Value) (b : List Int) (o : List Nat) (hb : Bytes b) (h : Suf.IsSA b o) (hn : b.length ≤ 1000) (w : World) (hr : Rd8 w v (Suf.tr b o)) :
    Calls Try.prog 9 #[v, .int .i64 (Suf.rk b 0 : Int)] w (InvP w b) := by
  have hle : Suf.rk b 0 ≤ b.length := by
    obtain ⟨h1, -⟩ := h.at_ (p := 0) (by omega)
    have := h.len
    omega
  have := inverse1_any v (Suf.tr b o) (Suf.rk b 0) b.length (tr_bytes hb (fun x hx => by have := List.mem_range.1 (h.perm.mem_iff.1 hx); omega)) (Suf.tr_length h.perm) hn hle _ (sa_way hb h rfl) w hr
  rw [sa_out h rfl] at this
  exact this
end Go.Proofs.Ytfebgcbkadmgiaa
