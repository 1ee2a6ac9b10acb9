/- The encoder's exported functions. -/
import Derived.Test.YtnodnfmgklkjeaaCb
import Derived.BigRegion
namespace Go.Proofs.Ytnodnfmgklkjeaa
open Go.RowKit
set_option linter.unusedVariables false
attribute [local go_sem ↓] Go.wp_at_zero Go.wp_at_succ

/-- Bytes that are read. -/
def Rd8 (w : World) (v : Value) (l : List Int) : Prop := Rd w 1 v l.length (bs l)
theorem Rd8.ext {w w' : World} {v : Value} {l : List Int} (h : Rd8 w v l) (k : Ext w w') : Rd8 w' v l := Rd.ext h k
theorem Own8.rd {w : World} {B : Nat} {v : Value} {l : List Int} (h : Own8 w B v l) : Rd8 w v l := Rd.of_own h
theorem Rd8.nil (w : World) : Rd8 w (.slice none 0 0) [] := Rd.nil w 1
theorem bs_one (l : List Int) : ∀ u ∈ bs l, u.oneCell' = true := by
  intro u hu
  simp [bs] at hu
  obtain ⟨a, -, rfl⟩ := hu
  rfl

set_option maxHeartbeats 400000 in
theorem clone_any (v : Value) (l : List Int) (hl : l.length ≤ 900000) (w : World) (h : Rd8 w v l) :
    Calls Try.prog 48 #[v] w fun x w' => ∃ v', x = .returned v' ∧ Own8 w' w.heap.size v' l ∧ Ext w w' := by
  have q22 : ∀ (w : World) (a : Option Addr) (n c n' c' : Nat), (binOp .eql 23 (.slice a n c) (.slice none n' c')).run Try.prog w = .ok (.bool a.isNone) w := fun w a n c n' c' => Lib.run_eql_slice_nil w _ _ a n c n' c' Try.underlying23
  obtain ⟨a, cap, rfl, h1, h2, h3⟩ := Rd.shape h
  cases a with
  | none =>
    have hc := h3 rfl
    subst hc
    have hl0 : l.length = 0 := by omega
    rw [hl0]
    have he : Hid (l = []) := List.eq_nil_of_length_eq_zero hl0
    clear hl0 h1 hl h
    go_enter Try.func48, Try.ntmps48
    go_wp2_with fail
    go_ret
    exact ⟨_, rfl, by rw [he.out]; exact World.ownsRow_nil _ _ _ _, Ext.refl _⟩
  | some ad =>
    obtain ⟨i0, hi, hz0, hz1, hz2⟩ := info_parts u8info
    have hz : World.ownsRow (w.alloc (.cells #[] 5)) w.heap.size 5 1 (.slice (some ⟨w.heap.size, 0, none⟩) 0 0) 0 [] := World.ownsRow_made w #[] 0 (Nat.le_refl _) (Nat.zero_le _) rfl
    have hr := Rd.alloc h (.cells #[] 5)
    have H := hidden h
    clear h
    go_enter Try.func48, Try.ntmps48
    go_wp2_with (at_builtin; refine wpList_append_own _ rfl _ _ 23 rfl w.heap.size 5 i0 (.int .u8 0) 1 1 Try.underlying23 hi hz0 hz1 hz2 rfl (by decide) _ 0 [] rfl hz ad l.length cap (bs l) rfl (by simp [bs]) hr.news (bs_one l) (by unfold maxLen; omega) (by omega) (by simp) ?_; intro v1 w1 hown hgrow hnil)
    go_ret
    refine ⟨v1, rfl, ?_, ?_⟩
    · rw [Nat.zero_add, List.nil_append] at hown
      exact hown
    · exact (((Chg.refl [] w).alloc _).grown hgrow (fun k hk => Or.inr (by injection hk with hk; exact Nat.le_of_eq hk))).ext

set_option maxHeartbeats 1000000 in
theorem open_any (lo wd : Int) (v : Value) (l : List Int) (hl0 : 0 ≤ lo) (hl1 : lo ≤ 4294967295) (hl : l.length ≤ 900000) (w : World) (h : Rd8 w v l) :
    Calls Try.prog 36 #[.agg #[.int .u32 lo, .int .u32 wd, v]] w fun x w' => ∃ p v', x = .returned (.pointer (some ⟨p, 0, none⟩)) ∧
      Blk w' p 77 [.int .u32 wd, .int .u64 lo, v'] ∧ Own8 w' w.heap.size v' l ∧ v'.ownBlock ≠ some p ∧ w.heap.size ≤ p ∧ Ext w w' := by
  have hB := Blk.new w [.int .u32 lo, .int .u32 wd, v] 25
  have hB' := hB
  obtain ⟨a, cap, rfl, h1, h2, h3⟩ := Rd.shape h
  have r0 := hB.cell 0 _ rfl
  have r1 := hB.cell 1 _ rfl
  have r2 := hB.cell 2 _ rfl
  have f0 := hB.frozen 0
  have f1 := hB.frozen 1
  have f2 := hB.frozen 2
  have n0 := World.new_ne (w.alloc (.cells #[.int .u32 lo, .int .u32 wd, .slice a l.length cap] 25)) _ r0
  have n1 := World.new_ne (w.alloc (.cells #[.int .u32 lo, .int .u32 wd, .slice a l.length cap] 25)) _ r1
  have n2 := World.new_ne (w.alloc (.cells #[.int .u32 lo, .int .u32 wd, .slice a l.length cap] 25)) _ r2
  have ha := (h.alloc (.cells #[.int .u32 lo, .int .u32 wd, .slice a l.length cap] 25)).drew
  have hw : IntKind.u64.wrap lo = lo := IntWalk.u64_in _ (by omega)
  go_enter Try.func36, Try.ntmps36
  go_upto_region 1 with fail
  go_region_held3 (fun w' => w'.cell? ⟨w.heap.size, 0, none⟩ = some (.int .u32 lo) ∧ w'.cell? ⟨w.heap.size, 1, none⟩ = some (.int .u32 wd) ∧ w'.cell? ⟨w.heap.size, 2, none⟩ = some (.slice a l.length cap)) (go_keep)
    (first | (go_at_call 48; refine (clone_any _ l hl _ ha).mono ?_; rintro e w1 ⟨v1, rfl, hO1, g1⟩; obtain ⟨a1, c1, rfl, s1, s2, s3⟩ := Rd.shape hO1.rd; have k0 := g1.cell r0; have k1 := g1.cell r1; have k2 := g1.cell r2))
  go_wp2_with fail
  go_ret
  have hs := g1.size
  simp at hs
  refine ⟨w1.heap.size, .slice a1 l.length c1, rfl, Blk.new w1 [.int .u32 wd, .int .u64 lo, .slice a1 l.length c1] _, ?_, ?_, by omega, (g1.past_drew.past).alloc _⟩
  · have h5 := World.ownsRow.alloc hO1 (.cells #[.int .u32 wd, .int .u64 lo, .slice a1 l.length c1] 77)
    exact ⟨h5.1, h5.2.imp id (fun ⟨g, c, cur, e1, e2, r⟩ => ⟨g, c, cur, e1, by simp at e2; omega, r⟩)⟩
  · intro hx
    have := (own_lt hO1 hx).2
    omega

/-- The error of an encoder. -/
def chk (wd : Int) (n : Nat) : Int := if wd < 16777216 then 2 else if 65536 < n then 5 else 0
theorem check_any (lo wd : Int) (v : Value) (l : List Int) (w : World) (h : Rd8 w v l) :
    Calls Try.prog 17 #[.agg #[.int .u32 lo, .int .u32 wd, v]] w fun x w' => x = .returned (.int .i64 (chk wd l.length)) ∧ Ext w w' := by
  obtain ⟨a, cap, rfl, h1, h2, h3⟩ := Rd.shape h
  clear h
  by_cases c1 : wd < 16777216
  · go_enter Try.func17, Try.ntmps17
    go_wp2_with fail
    go_ret
    exact ⟨ret_int (by unfold chk; rw [if_pos c1]), (Ext.refl _).alloc _⟩
  · by_cases c2 : 65536 < l.length
    · have c2' : (65536 : Int) < (l.length : Int) := by omega
      go_enter Try.func17, Try.ntmps17
      go_wp2_with fail
      go_ret
      exact ⟨ret_int (by unfold chk; rw [if_neg (by omega), if_pos c2]), (Ext.refl _).alloc _⟩
    · have c2' : ¬ (65536 : Int) < (l.length : Int) := by omega
      go_enter Try.func17, Try.ntmps17
      go_wp2_with fail
      go_ret
      exact ⟨ret_int (by unfold chk; rw [if_neg (by omega), if_neg c2]), (Ext.refl _).alloc _⟩
theorem chk_zero {wd : Int} {n : Nat} (h : chk wd n = 0) : 16777216 ≤ wd ∧ n ≤ 65536 := by
  unfold chk at h
  split at h
  · omega
  · split at h
    · omega
    · omega

def prb (p : Int) : Bool := decide (1 ≤ p) && decide (p ≤ 4095)
theorem probable_any (p : Int) (w : World) :
    Calls Try.prog 35 #[.int .i64 p] w fun x w' => x = .returned (.bool (prb p)) ∧ w = w' := by
  by_cases c1 : 1 ≤ p
  · by_cases c2 : p ≤ 4095
    · go_enter Try.func35, Try.ntmps35
      go_wp2_with fail
      go_ret
      exact ⟨ret_bool (by simp [prb, c1, c2]), rfl⟩
    · go_enter Try.func35, Try.ntmps35
      go_wp2_with fail
      go_ret
      exact ⟨ret_bool (by simp [prb, c1]; omega), rfl⟩
  · go_enter Try.func35, Try.ntmps35
    go_wp2_with fail
    go_ret
    exact ⟨ret_bool (by simp [prb]; omega), rfl⟩

/-- The result of Encode: the error, low, range, bytes. -/
def encF (lo wd : Int) (l : List Int) (bit p : Int) : Int × Int × Int × List Int :=
  if chk wd l.length ≠ 0 then (chk wd l.length, 0, 0, []) else if bit ≠ 0 ∧ bit ≠ 1 then (1, 0, 0, []) else if prb p = false then (2, 0, 0, [])
  else if 65536 < (enc wd lo l bit p).2.2.length then (5, 0, 0, []) else (0, (enc wd lo l bit p).2.1, (enc wd lo l bit p).1, (enc wd lo l bit p).2.2)
/-- What Encode leaves. -/
def EncPost (w : World) (r : Int × Int × Int × List Int) (x : Ending) (w' : World) : Prop :=
  ∃ a c, x = .returned (.tuple #[.agg #[.int .u32 r.2.1, .int .u32 r.2.2.1, .slice a r.2.2.2.length c], .int .i64 r.1]) ∧ Rd8 w' (.slice a r.2.2.2.length c) r.2.2.2 ∧ Ext w w'

theorem shN_len : ∀ (k : Nat) (wd lo : Int) (l : List Int), (shN k wd lo l).2.2.length ≤ l.length + k := by
  intro k
  induction k with
  | zero => intro wd lo l; exact Nat.le_refl _
  | succ k ih =>
    intro wd lo l
    unfold shN
    split
    · have := ih (wd * 256 % 4294967296) (lo * 256 % 4294967296) (l ++ [lo / 16777216])
      simp only [List.length_append, List.length_singleton] at this
      omega
    · show l.length ≤ _; omega
theorem shN_lo : ∀ (k : Nat) (wd lo : Int) (l : List Int), 0 ≤ lo → lo ≤ 4294967295 → 0 ≤ (shN k wd lo l).2.1 ∧ (shN k wd lo l).2.1 ≤ 4294967295 := by
  intro k
  induction k with
  | zero => intro wd lo l h0 h1; exact ⟨h0, h1⟩
  | succ k ih =>
    intro wd lo l h0 h1
    unfold shN
    split
    · exact ih _ _ _ (by omega) (by omega)
    · exact ⟨h0, h1⟩
theorem enc_lo (wd lo : Int) (l : List Int) (bit p : Int) (h0 : 0 ≤ lo) (h1 : lo ≤ 4294967295) (h2 : 0 ≤ wd) (h3 : wd ≤ 4294967295) (h4 : 0 ≤ p) (h5 : p ≤ 4095) : 0 ≤ (enc wd lo l bit p).2.1 ∧ (enc wd lo l bit p).2.1 ≤ 4294967295 := by
  refine shN_lo 3 _ _ _ ?_ ?_ <;> (unfold encLo; split <;> omega)
theorem enc_len (wd lo : Int) (l : List Int) (bit p : Int) : (enc wd lo l bit p).2.2.length ≤ l.length + 3 := by
  have := shN_len 3 (encWd wd p bit) (encLo wd lo p bit) (encL wd lo p bit l)
  have e : (encL wd lo p bit l).length = l.length := by unfold encL; split; rfl; split; exact carryL_len l; rfl
  rw [e] at this
  exact this

set_option maxHeartbeats 1000000 in
theorem encode_bad1 (lo wd bit p : Int) (v : Value) (l : List Int) (w : World) (h : Rd8 w v l) (hc : chk wd l.length ≠ 0) :
    Calls Try.prog 12 #[.agg #[.int .u32 lo, .int .u32 wd, v], .int .i64 bit, .int .i64 p] w fun x w' => EncPost w (encF lo wd l bit p) x w' := by
  have hE : encF lo wd l bit p = (chk wd l.length, 0, 0, []) := by unfold encF; rw [if_pos hc]
  rw [hE]
  obtain ⟨k, hk⟩ : ∃ k, chk wd l.length = k := ⟨_, rfl⟩
  have hz : (k != 0) = true := by rw [← hk]; simp [hc]
  rw [hk]
  have Hk := hidden hk
  clear hc hE hk
  obtain ⟨a, cap, rfl, h1, h2, h3⟩ := Rd.shape h
  have W0B : Blk ((w.alloc (.cells #[.int .u32 lo, .int .u32 wd, .slice a l.length cap] 25)).alloc (.cells #[.int .u32 0, .int .u32 0, .slice none 0 0] 25)) w.heap.size 25 [.int .u32 lo, .int .u32 wd, .slice a l.length cap] := (Blk.new w [.int .u32 lo, .int .u32 wd, .slice a l.length cap] _).alloc _
  have W0Z : Blk ((w.alloc (.cells #[.int .u32 lo, .int .u32 wd, .slice a l.length cap] 25)).alloc (.cells #[.int .u32 0, .int .u32 0, .slice none 0 0] 25)) (w.heap.size + 1) 25 [.int .u32 0, .int .u32 0, .slice none 0 0] := by
    have := Blk.new (w.alloc (.cells #[.int .u32 lo, .int .u32 wd, .slice a l.length cap] 25)) [.int .u32 0, .int .u32 0, .slice none 0 0] 25
    rw [World.size_alloc] at this
    exact this
  have W0R : Rd8 ((w.alloc (.cells #[.int .u32 lo, .int .u32 wd, .slice a l.length cap] 25)).alloc (.cells #[.int .u32 0, .int .u32 0, .slice none 0 0] 25)) (.slice a l.length cap) l := Rd.alloc (Rd.alloc h _) _
  have W0E : Ext w ((w.alloc (.cells #[.int .u32 lo, .int .u32 wd, .slice a l.length cap] 25)).alloc (.cells #[.int .u32 0, .int .u32 0, .slice none 0 0] 25)) := ((Ext.refl w).alloc _).alloc _
  go_enter Try.func12, Try.ntmps12
  go_wp2_with fail
  refine (check_any _ _ _ l _ W0R).mono ?_
  rw [Hk.out]
  rintro e w1 ⟨rfl, g1⟩
  have W1B := W0B.ext g1
  have W1Z := W0Z.ext g1
  have pb0 := W1B.cell 0 _ rfl
  have pb1 := W1B.cell 1 _ rfl
  have pb2 := W1B.cell 2 _ rfl
  have pz0 := W1Z.cell 0 _ rfl
  have pz1 := W1Z.cell 1 _ rfl
  have pz2 := W1Z.cell 2 _ rfl
  have py0 := W1Z.frozen 0
  have py1 := W1Z.frozen 1
  have py2 := W1Z.frozen 2
  go_wp2_with fail
  refine bodyPost_ret (v := .tuple #[.agg #[.int .u32 0, .int .u32 0, .slice none 0 0], .int .i64 k]) (by simp [results, Try.results12, go_sem, pz0, pz1, pz2]) rfl ?_
  refine ⟨none, 0, rfl, Rd8.nil _, ?_⟩
  exact (((Chg.of_ext [] (W0E.trans g1)).setCell (Or.inr (by simp)) _).setCell (Or.inr (by simp)) _).setCell (Or.inr (by simp)) _ |>.ext

set_option maxHeartbeats 1000000 in
theorem encode_bad2 (lo wd bit p : Int) (v : Value) (l : List Int) (w : World) (h : Rd8 w v l) (hc : chk wd l.length = 0) (h0 : bit ≠ 0) (h1 : bit ≠ 1) :
    Calls Try.prog 12 #[.agg #[.int .u32 lo, .int .u32 wd, v], .int .i64 bit, .int .i64 p] w fun x w' => EncPost w (encF lo wd l bit p) x w' := by
  have hE : encF lo wd l bit p = (1, 0, 0, []) := by unfold encF; rw [if_neg (by simp [hc]), if_pos ⟨h0, h1⟩]
  rw [hE]
  have hz0 : (bit != 0) = true := by simp [h0]
  have hz1 : (bit != 1) = true := by simp [h1]
  have Hk := hidden hc
  clear hc hE h0 h1
  obtain ⟨a, cap, rfl, h1, h2, h3⟩ := Rd.shape h
  have W0B : Blk ((w.alloc (.cells #[.int .u32 lo, .int .u32 wd, .slice a l.length cap] 25)).alloc (.cells #[.int .u32 0, .int .u32 0, .slice none 0 0] 25)) w.heap.size 25 [.int .u32 lo, .int .u32 wd, .slice a l.length cap] := (Blk.new w [.int .u32 lo, .int .u32 wd, .slice a l.length cap] _).alloc _
  have W0Z : Blk ((w.alloc (.cells #[.int .u32 lo, .int .u32 wd, .slice a l.length cap] 25)).alloc (.cells #[.int .u32 0, .int .u32 0, .slice none 0 0] 25)) (w.heap.size + 1) 25 [.int .u32 0, .int .u32 0, .slice none 0 0] := by
    have := Blk.new (w.alloc (.cells #[.int .u32 lo, .int .u32 wd, .slice a l.length cap] 25)) [.int .u32 0, .int .u32 0, .slice none 0 0] 25
    rw [World.size_alloc] at this
    exact this
  have W0R : Rd8 ((w.alloc (.cells #[.int .u32 lo, .int .u32 wd, .slice a l.length cap] 25)).alloc (.cells #[.int .u32 0, .int .u32 0, .slice none 0 0] 25)) (.slice a l.length cap) l := Rd.alloc (Rd.alloc h _) _
  have W0E : Ext w ((w.alloc (.cells #[.int .u32 lo, .int .u32 wd, .slice a l.length cap] 25)).alloc (.cells #[.int .u32 0, .int .u32 0, .slice none 0 0] 25)) := ((Ext.refl w).alloc _).alloc _
  go_enter Try.func12, Try.ntmps12
  go_wp2_with fail
  refine (check_any _ _ _ l _ W0R).mono ?_
  rw [Hk.out]
  rintro e w1 ⟨rfl, g1⟩
  have W1B := W0B.ext g1
  have W1Z := W0Z.ext g1
  have pb0 := W1B.cell 0 _ rfl
  have pb1 := W1B.cell 1 _ rfl
  have pb2 := W1B.cell 2 _ rfl
  have pz0 := W1Z.cell 0 _ rfl
  have pz1 := W1Z.cell 1 _ rfl
  have pz2 := W1Z.cell 2 _ rfl
  have py0 := W1Z.frozen 0
  have py1 := W1Z.frozen 1
  have py2 := W1Z.frozen 2
  go_wp2_with fail
  refine bodyPost_ret (v := .tuple #[.agg #[.int .u32 0, .int .u32 0, .slice none 0 0], .int .i64 1]) (by simp [results, Try.results12, go_sem, pz0, pz1, pz2]) rfl ?_
  refine ⟨none, 0, rfl, Rd8.nil _, ?_⟩
  exact (((Chg.of_ext [] (W0E.trans g1)).setCell (Or.inr (by simp)) _).setCell (Or.inr (by simp)) _).setCell (Or.inr (by simp)) _ |>.ext

set_option maxHeartbeats 1000000 in
theorem encode_bad3_0 (lo wd p : Int) (v : Value) (l : List Int) (w : World) (h : Rd8 w v l) (hc : chk wd l.length = 0) (hp : prb p = false) :
    Calls Try.prog 12 #[.agg #[.int .u32 lo, .int .u32 wd, v], .int .i64 0, .int .i64 p] w fun x w' => EncPost w (encF lo wd l 0 p) x w' := by
  have hE : encF lo wd l 0 p = (2, 0, 0, []) := by unfold encF; rw [if_neg (by simp [hc]), if_neg (by omega), if_pos hp]
  rw [hE]
  have Hk := hidden hc
  have Hp := hidden hp
  clear hc hE hp
  obtain ⟨a, cap, rfl, h1, h2, h3⟩ := Rd.shape h
  have W0B : Blk ((w.alloc (.cells #[.int .u32 lo, .int .u32 wd, .slice a l.length cap] 25)).alloc (.cells #[.int .u32 0, .int .u32 0, .slice none 0 0] 25)) w.heap.size 25 [.int .u32 lo, .int .u32 wd, .slice a l.length cap] := (Blk.new w [.int .u32 lo, .int .u32 wd, .slice a l.length cap] _).alloc _
  have W0Z : Blk ((w.alloc (.cells #[.int .u32 lo, .int .u32 wd, .slice a l.length cap] 25)).alloc (.cells #[.int .u32 0, .int .u32 0, .slice none 0 0] 25)) (w.heap.size + 1) 25 [.int .u32 0, .int .u32 0, .slice none 0 0] := by
    have := Blk.new (w.alloc (.cells #[.int .u32 lo, .int .u32 wd, .slice a l.length cap] 25)) [.int .u32 0, .int .u32 0, .slice none 0 0] 25
    rw [World.size_alloc] at this
    exact this
  have W0R : Rd8 ((w.alloc (.cells #[.int .u32 lo, .int .u32 wd, .slice a l.length cap] 25)).alloc (.cells #[.int .u32 0, .int .u32 0, .slice none 0 0] 25)) (.slice a l.length cap) l := Rd.alloc (Rd.alloc h _) _
  have W0E : Ext w ((w.alloc (.cells #[.int .u32 lo, .int .u32 wd, .slice a l.length cap] 25)).alloc (.cells #[.int .u32 0, .int .u32 0, .slice none 0 0] 25)) := ((Ext.refl w).alloc _).alloc _
  go_enter Try.func12, Try.ntmps12
  go_wp2_with fail
  refine (check_any _ _ _ l _ W0R).mono ?_
  rw [Hk.out]
  rintro e w1 ⟨rfl, g1⟩
  have W1B := W0B.ext g1
  have W1Z := W0Z.ext g1
  have pb0 := W1B.cell 0 _ rfl
  have pb1 := W1B.cell 1 _ rfl
  have pb2 := W1B.cell 2 _ rfl
  have pz0 := W1Z.cell 0 _ rfl
  have pz1 := W1Z.cell 1 _ rfl
  have pz2 := W1Z.cell 2 _ rfl
  have py0 := W1Z.frozen 0
  have py1 := W1Z.frozen 1
  have py2 := W1Z.frozen 2
  go_wp2_with fail
  refine (probable_any _ _).mono ?_
  rw [Hp.out]
  rintro e w2 ⟨rfl, rfl⟩
  go_wp2_with fail
  refine bodyPost_ret (v := .tuple #[.agg #[.int .u32 0, .int .u32 0, .slice none 0 0], .int .i64 2]) (by simp [results, Try.results12, go_sem, pz0, pz1, pz2]) rfl ?_
  refine ⟨none, 0, rfl, Rd8.nil _, ?_⟩
  exact (((Chg.of_ext [] (W0E.trans g1)).setCell (Or.inr (by simp)) _).setCell (Or.inr (by simp)) _).setCell (Or.inr (by simp)) _ |>.ext

set_option maxHeartbeats 1000000 in
theorem encode_long_0 (lo wd p : Int) (v : Value) (l : List Int) (w : World) (h : Rd8 w v l) (hc : chk wd l.length = 0) (hp : prb p = true) (hb : Bytes l) (hl0 : 0 ≤ lo) (hl1 : lo ≤ 4294967295) (hw1 : wd ≤ 4294967295) (hlen : 65536 < (enc wd lo l 0 p).2.2.length) :
    Calls Try.prog 12 #[.agg #[.int .u32 lo, .int .u32 wd, v], .int .i64 0, .int .i64 p] w fun x w' => EncPost w (encF lo wd l 0 p) x w' := by
  obtain ⟨c1, c2⟩ := chk_zero hc
  obtain ⟨c3, c4⟩ : 1 ≤ p ∧ p ≤ 4095 := by simp [prb] at hp; omega
  have hlen2 : (enc wd lo l 0 p).2.2.length ≤ 900000 := by have := enc_len wd lo l 0 p; omega
  obtain ⟨R, hR⟩ : ∃ R, enc wd lo l 0 p = R := ⟨_, rfl⟩
  have hE : encF lo wd l 0 p = (5, 0, 0, []) := by unfold encF; rw [if_neg (by simp [hc]), if_neg (by omega), if_neg (by simp [hp]), if_pos hlen]
  rw [hE]
  rw [hR] at hlen hlen2
  have hlt : (65536 : Int) < (R.2.2.length : Int) := by omega
  have Hk := hidden hc
  have Hp := hidden hp
  have HR := hidden hR
  clear hc hE hp hR hlen
  obtain ⟨a, cap, rfl, h1, h2, h3⟩ := Rd.shape h
  have W0B : Blk ((w.alloc (.cells #[.int .u32 lo, .int .u32 wd, .slice a l.length cap] 25)).alloc (.cells #[.int .u32 0, .int .u32 0, .slice none 0 0] 25)) w.heap.size 25 [.int .u32 lo, .int .u32 wd, .slice a l.length cap] := (Blk.new w [.int .u32 lo, .int .u32 wd, .slice a l.length cap] _).alloc _
  have W0Z : Blk ((w.alloc (.cells #[.int .u32 lo, .int .u32 wd, .slice a l.length cap] 25)).alloc (.cells #[.int .u32 0, .int .u32 0, .slice none 0 0] 25)) (w.heap.size + 1) 25 [.int .u32 0, .int .u32 0, .slice none 0 0] := by
    have := Blk.new (w.alloc (.cells #[.int .u32 lo, .int .u32 wd, .slice a l.length cap] 25)) [.int .u32 0, .int .u32 0, .slice none 0 0] 25
    rw [World.size_alloc] at this
    exact this
  have W0R : Rd8 ((w.alloc (.cells #[.int .u32 lo, .int .u32 wd, .slice a l.length cap] 25)).alloc (.cells #[.int .u32 0, .int .u32 0, .slice none 0 0] 25)) (.slice a l.length cap) l := Rd.alloc (Rd.alloc h _) _
  have W0E : Ext w ((w.alloc (.cells #[.int .u32 lo, .int .u32 wd, .slice a l.length cap] 25)).alloc (.cells #[.int .u32 0, .int .u32 0, .slice none 0 0] 25)) := ((Ext.refl w).alloc _).alloc _
  go_enter Try.func12, Try.ntmps12
  go_wp2_with fail
  refine (check_any _ _ _ l _ W0R).mono ?_
  rw [Hk.out]
  rintro e w1 ⟨rfl, g1⟩
  have W1B := W0B.ext g1
  have W1Z := W0Z.ext g1
  have pb0 := W1B.cell 0 _ rfl
  have pb1 := W1B.cell 1 _ rfl
  have pb2 := W1B.cell 2 _ rfl
  have pz0 := W1Z.cell 0 _ rfl
  have pz1 := W1Z.cell 1 _ rfl
  have pz2 := W1Z.cell 2 _ rfl
  have py0 := W1Z.frozen 0
  have py1 := W1Z.frozen 1
  have py2 := W1Z.frozen 2
  go_wp2_with fail
  refine (probable_any _ _).mono ?_
  rw [Hp.out]
  rintro e w2 ⟨rfl, rfl⟩
  go_wp2_with fail
  refine (open_any lo wd _ l hl0 hl1 (by omega) _ (W0R.ext g1)).mono ?_
  rintro e w3 ⟨q, v3, rfl, hB3, hO3, hq3, hs3, g3⟩
  have hBs : w.heap.size + 2 ≤ w3.heap.size := by have := W0Z.lt; simp at this; have := g1.size; simp at this; have := g3.size; omega
  go_wp2_with fail
  refine (encode_any q (w.heap.size + 2) wd lo 0 p v3 l hb hq3 (by omega) (by omega) hw1 hl0 hl1 c3 c4 w3 hBs hB3 ?_).mono ?_
  · exact ⟨hO3.1, hO3.2.imp id (fun ⟨g, c, cur, e1, e2, r⟩ => ⟨g, c, cur, e1, by have := g1.size; simp at this; omega, r⟩)⟩
  rw [HR.out]
  rintro e w4 ⟨rfl, v4, hB4, hO4, hq4, hC4⟩
  have gE : Chg [] w w4 := (Chg.of_ext [] ((W0E.trans g1).trans g3)).trans hC4 (by
    intro x hx
    have hs0 := W0E.size
    have hs1 := g1.size
    rcases List.mem_cons.1 hx with rfl | hx
    · exact Or.inr (by omega)
    · have := own_lt hO3 (by simpa using hx); exact Or.inr (by omega))
  have hnz : w.heap.size + 1 ∉ q :: v3.ownBlock.toList := by
    have hs1 := g1.size
    have hz := W0Z.lt
    intro hx
    rcases List.mem_cons.1 hx with rfl | hx
    · omega
    · have := own_lt hO3 (by simpa using hx); omega
  have W4Z := ((W1Z.ext g3)).chg hC4 hnz
  have hq4' : v4.ownBlock ≠ some (w.heap.size + 1) := by
    intro hx
    have := (own_lt hO4 hx).1
    omega
  obtain ⟨a4, cap4, rfl, k1, k2, k3⟩ := Rd.shape hO4.rd
  have q0 := hB4.cell 0 _ rfl
  have q1 := hB4.cell 1 _ rfl
  have q2 := hB4.cell 2 _ rfl
  have z0 := W4Z.cell 0 _ rfl
  have z1 := W4Z.cell 1 _ rfl
  have z2 := W4Z.cell 2 _ rfl
  have y0 := W4Z.frozen 0
  have y1 := W4Z.frozen 1
  have y2 := W4Z.frozen 2
  go_wp2_with fail
  refine bodyPost_ret (v := .tuple #[.agg #[.int .u32 0, .int .u32 0, .slice none 0 0], .int .i64 5]) (by simp [results, Try.results12, go_sem, z0, z1, z2]) rfl ?_
  refine ⟨none, 0, rfl, Rd8.nil _, ?_⟩
  exact ((gE.setCell (Or.inr (by simp)) _).setCell (Or.inr (by simp)) _).setCell (Or.inr (by simp)) _ |>.ext

set_option maxHeartbeats 1000000 in
theorem encode_good_0 (lo wd p : Int) (v : Value) (l : List Int) (w : World) (h : Rd8 w v l) (hc : chk wd l.length = 0) (hp : prb p = true) (hb : Bytes l) (hl0 : 0 ≤ lo) (hl1 : lo ≤ 4294967295) (hw1 : wd ≤ 4294967295) (hlen : ¬ 65536 < (enc wd lo l 0 p).2.2.length) :
    Calls Try.prog 12 #[.agg #[.int .u32 lo, .int .u32 wd, v], .int .i64 0, .int .i64 p] w fun x w' => EncPost w (encF lo wd l 0 p) x w' := by
  obtain ⟨c1, c2⟩ := chk_zero hc
  obtain ⟨c3, c4⟩ : 1 ≤ p ∧ p ≤ 4095 := by simp [prb] at hp; omega
  have hlen2 : (enc wd lo l 0 p).2.2.length ≤ 900000 := by have := enc_len wd lo l 0 p; omega
  obtain ⟨R, hR⟩ : ∃ R, enc wd lo l 0 p = R := ⟨_, rfl⟩
  have hE : encF lo wd l 0 p = (0, R.2.1, R.1, R.2.2) := by unfold encF; rw [if_neg (by simp [hc]), if_neg (by omega), if_neg (by simp [hp]), if_neg hlen, hR]
  rw [hE]
  rw [hR] at hlen hlen2
  have hlt : ¬ (65536 : Int) < (R.2.2.length : Int) := by omega
  have Hk := hidden hc
  have Hp := hidden hp
  have HR := hidden hR
  clear hc hE hp hR hlen
  obtain ⟨a, cap, rfl, h1, h2, h3⟩ := Rd.shape h
  have W0B : Blk ((w.alloc (.cells #[.int .u32 lo, .int .u32 wd, .slice a l.length cap] 25)).alloc (.cells #[.int .u32 0, .int .u32 0, .slice none 0 0] 25)) w.heap.size 25 [.int .u32 lo, .int .u32 wd, .slice a l.length cap] := (Blk.new w [.int .u32 lo, .int .u32 wd, .slice a l.length cap] _).alloc _
  have W0Z : Blk ((w.alloc (.cells #[.int .u32 lo, .int .u32 wd, .slice a l.length cap] 25)).alloc (.cells #[.int .u32 0, .int .u32 0, .slice none 0 0] 25)) (w.heap.size + 1) 25 [.int .u32 0, .int .u32 0, .slice none 0 0] := by
    have := Blk.new (w.alloc (.cells #[.int .u32 lo, .int .u32 wd, .slice a l.length cap] 25)) [.int .u32 0, .int .u32 0, .slice none 0 0] 25
    rw [World.size_alloc] at this
    exact this
  have W0R : Rd8 ((w.alloc (.cells #[.int .u32 lo, .int .u32 wd, .slice a l.length cap] 25)).alloc (.cells #[.int .u32 0, .int .u32 0, .slice none 0 0] 25)) (.slice a l.length cap) l := Rd.alloc (Rd.alloc h _) _
  have W0E : Ext w ((w.alloc (.cells #[.int .u32 lo, .int .u32 wd, .slice a l.length cap] 25)).alloc (.cells #[.int .u32 0, .int .u32 0, .slice none 0 0] 25)) := ((Ext.refl w).alloc _).alloc _
  go_enter Try.func12, Try.ntmps12
  go_wp2_with fail
  refine (check_any _ _ _ l _ W0R).mono ?_
  rw [Hk.out]
  rintro e w1 ⟨rfl, g1⟩
  have W1B := W0B.ext g1
  have W1Z := W0Z.ext g1
  have pb0 := W1B.cell 0 _ rfl
  have pb1 := W1B.cell 1 _ rfl
  have pb2 := W1B.cell 2 _ rfl
  have pz0 := W1Z.cell 0 _ rfl
  have pz1 := W1Z.cell 1 _ rfl
  have pz2 := W1Z.cell 2 _ rfl
  have py0 := W1Z.frozen 0
  have py1 := W1Z.frozen 1
  have py2 := W1Z.frozen 2
  go_wp2_with fail
  refine (probable_any _ _).mono ?_
  rw [Hp.out]
  rintro e w2 ⟨rfl, rfl⟩
  go_wp2_with fail
  refine (open_any lo wd _ l hl0 hl1 (by omega) _ (W0R.ext g1)).mono ?_
  rintro e w3 ⟨q, v3, rfl, hB3, hO3, hq3, hs3, g3⟩
  have hBs : w.heap.size + 2 ≤ w3.heap.size := by have := W0Z.lt; simp at this; have := g1.size; simp at this; have := g3.size; omega
  go_wp2_with fail
  refine (encode_any q (w.heap.size + 2) wd lo 0 p v3 l hb hq3 (by omega) (by omega) hw1 hl0 hl1 c3 c4 w3 hBs hB3 ?_).mono ?_
  · exact ⟨hO3.1, hO3.2.imp id (fun ⟨g, c, cur, e1, e2, r⟩ => ⟨g, c, cur, e1, by have := g1.size; simp at this; omega, r⟩)⟩
  rw [HR.out]
  rintro e w4 ⟨rfl, v4, hB4, hO4, hq4, hC4⟩
  have gE : Chg [] w w4 := (Chg.of_ext [] ((W0E.trans g1).trans g3)).trans hC4 (by
    intro x hx
    have hs0 := W0E.size
    have hs1 := g1.size
    rcases List.mem_cons.1 hx with rfl | hx
    · exact Or.inr (by omega)
    · have := own_lt hO3 (by simpa using hx); exact Or.inr (by omega))
  have hnz : w.heap.size + 1 ∉ q :: v3.ownBlock.toList := by
    have hs1 := g1.size
    have hz := W0Z.lt
    intro hx
    rcases List.mem_cons.1 hx with rfl | hx
    · omega
    · have := own_lt hO3 (by simpa using hx); omega
  have W4Z := ((W1Z.ext g3)).chg hC4 hnz
  have hq4' : v4.ownBlock ≠ some (w.heap.size + 1) := by
    intro hx
    have := (own_lt hO4 hx).1
    omega
  obtain ⟨a4, cap4, rfl, k1, k2, k3⟩ := Rd.shape hO4.rd
  have q0 := hB4.cell 0 _ rfl
  have q1 := hB4.cell 1 _ rfl
  have q2 := hB4.cell 2 _ rfl
  have z0 := W4Z.cell 0 _ rfl
  have z1 := W4Z.cell 1 _ rfl
  have z2 := W4Z.cell 2 _ rfl
  have y0 := W4Z.frozen 0
  have y1 := W4Z.frozen 1
  have y2 := W4Z.frozen 2
  have hlo := enc_lo wd lo l 0 p hl0 hl1 (by omega) hw1 (by omega) c4
  rw [HR.out] at hlo
  have hwr : IntKind.u32.wrap R.2.1 = R.2.1 := IntWalk.u32_in _ hlo
  have hqn : q ≠ w.heap.size + 1 := by have hs1 := g1.size; have hz := W0Z.lt; omega
  go_upto_region 12 with fail
  go_region
  go_wp2_with fail
  refine bodyPost_ret (v := .tuple #[.agg #[.int .u32 R.2.1, .int .u32 R.1, .slice a4 R.2.2.length cap4], .int .i64 0]) (by simp [results, Try.results12, go_sem, z0, z1, z2]) rfl ?_
  have hC := ((gE.drew.setCell (p := ⟨w.heap.size + 1, 0, none⟩) (Or.inr (by simp)) (.int .u32 R.2.1)).setCell (p := ⟨w.heap.size + 1, 1, none⟩) (Or.inr (by simp)) (.int .u32 R.1)).setCell (p := ⟨w.heap.size + 1, 2, none⟩) (Or.inr (by simp)) (.slice a4 R.2.2.length cap4)
  refine ⟨a4, cap4, rfl, ?_, hC.ext⟩
  have hn : (Value.slice a4 R.2.2.length cap4).ownBlock ≠ some (w.heap.size + 1) := by
    intro hx
    have hl := World.ownsRow.lt hO4 _ hx
    exact hq4' hx
  have hd := ownsRow_setCell_other (a := ⟨w.heap.size + 1, 2, none⟩) (ownsRow_setCell_other (a := ⟨w.heap.size + 1, 1, none⟩) (ownsRow_setCell_other (a := ⟨w.heap.size + 1, 0, none⟩) hO4 hn (.int .u32 R.2.1)) hn (.int .u32 R.1)) hn (.slice a4 R.2.2.length cap4)
  exact Rd.drew (Own8.rd hd)

set_option maxHeartbeats 1000000 in
theorem encode_bad3_1 (lo wd p : Int) (v : Value) (l : List Int) (w : World) (h : Rd8 w v l) (hc : chk wd l.length = 0) (hp : prb p = false) :
    Calls Try.prog 12 #[.agg #[.int .u32 lo, .int .u32 wd, v], .int .i64 1, .int .i64 p] w fun x w' => EncPost w (encF lo wd l 1 p) x w' := by
  have hE : encF lo wd l 1 p = (2, 0, 0, []) := by unfold encF; rw [if_neg (by simp [hc]), if_neg (by omega), if_pos hp]
  rw [hE]
  have Hk := hidden hc
  have Hp := hidden hp
  clear hc hE hp
  obtain ⟨a, cap, rfl, h1, h2, h3⟩ := Rd.shape h
  have W0B : Blk ((w.alloc (.cells #[.int .u32 lo, .int .u32 wd, .slice a l.length cap] 25)).alloc (.cells #[.int .u32 0, .int .u32 0, .slice none 0 0] 25)) w.heap.size 25 [.int .u32 lo, .int .u32 wd, .slice a l.length cap] := (Blk.new w [.int .u32 lo, .int .u32 wd, .slice a l.length cap] _).alloc _
  have W0Z : Blk ((w.alloc (.cells #[.int .u32 lo, .int .u32 wd, .slice a l.length cap] 25)).alloc (.cells #[.int .u32 0, .int .u32 0, .slice none 0 0] 25)) (w.heap.size + 1) 25 [.int .u32 0, .int .u32 0, .slice none 0 0] := by
    have := Blk.new (w.alloc (.cells #[.int .u32 lo, .int .u32 wd, .slice a l.length cap] 25)) [.int .u32 0, .int .u32 0, .slice none 0 0] 25
    rw [World.size_alloc] at this
    exact this
  have W0R : Rd8 ((w.alloc (.cells #[.int .u32 lo, .int .u32 wd, .slice a l.length cap] 25)).alloc (.cells #[.int .u32 0, .int .u32 0, .slice none 0 0] 25)) (.slice a l.length cap) l := Rd.alloc (Rd.alloc h _) _
  have W0E : Ext w ((w.alloc (.cells #[.int .u32 lo, .int .u32 wd, .slice a l.length cap] 25)).alloc (.cells #[.int .u32 0, .int .u32 0, .slice none 0 0] 25)) := ((Ext.refl w).alloc _).alloc _
  go_enter Try.func12, Try.ntmps12
  go_wp2_with fail
  refine (check_any _ _ _ l _ W0R).mono ?_
  rw [Hk.out]
  rintro e w1 ⟨rfl, g1⟩
  have W1B := W0B.ext g1
  have W1Z := W0Z.ext g1
  have pb0 := W1B.cell 0 _ rfl
  have pb1 := W1B.cell 1 _ rfl
  have pb2 := W1B.cell 2 _ rfl
  have pz0 := W1Z.cell 0 _ rfl
  have pz1 := W1Z.cell 1 _ rfl
  have pz2 := W1Z.cell 2 _ rfl
  have py0 := W1Z.frozen 0
  have py1 := W1Z.frozen 1
  have py2 := W1Z.frozen 2
  go_wp2_with fail
  refine (probable_any _ _).mono ?_
  rw [Hp.out]
  rintro e w2 ⟨rfl, rfl⟩
  go_wp2_with fail
  refine bodyPost_ret (v := .tuple #[.agg #[.int .u32 0, .int .u32 0, .slice none 0 0], .int .i64 2]) (by simp [results, Try.results12, go_sem, pz0, pz1, pz2]) rfl ?_
  refine ⟨none, 0, rfl, Rd8.nil _, ?_⟩
  exact (((Chg.of_ext [] (W0E.trans g1)).setCell (Or.inr (by simp)) _).setCell (Or.inr (by simp)) _).setCell (Or.inr (by simp)) _ |>.ext

set_option maxHeartbeats 1000000 in
theorem encode_long_1 (lo wd p : Int) (v : Value) (l : List Int) (w : World) (h : Rd8 w v l) (hc : chk wd l.length = 0) (hp : prb p = true) (hb : Bytes l) (hl0 : 0 ≤ lo) (hl1 : lo ≤ 4294967295) (hw1 : wd ≤ 4294967295) (hlen : 65536 < (enc wd lo l 1 p).2.2.length) :
    Calls Try.prog 12 #[.agg #[.int .u32 lo, .int .u32 wd, v], .int .i64 1, .int .i64 p] w fun x w' => EncPost w (encF lo wd l 1 p) x w' := by
  obtain ⟨c1, c2⟩ := chk_zero hc
  obtain ⟨c3, c4⟩ : 1 ≤ p ∧ p ≤ 4095 := by simp [prb] at hp; omega
  have hlen2 : (enc wd lo l 1 p).2.2.length ≤ 900000 := by have := enc_len wd lo l 1 p; omega
  obtain ⟨R, hR⟩ : ∃ R, enc wd lo l 1 p = R := ⟨_, rfl⟩
  have hE : encF lo wd l 1 p = (5, 0, 0, []) := by unfold encF; rw [if_neg (by simp [hc]), if_neg (by omega), if_neg (by simp [hp]), if_pos hlen]
  rw [hE]
  rw [hR] at hlen hlen2
  have hlt : (65536 : Int) < (R.2.2.length : Int) := by omega
  have Hk := hidden hc
  have Hp := hidden hp
  have HR := hidden hR
  clear hc hE hp hR hlen
  obtain ⟨a, cap, rfl, h1, h2, h3⟩ := Rd.shape h
  have W0B : Blk ((w.alloc (.cells #[.int .u32 lo, .int .u32 wd, .slice a l.length cap] 25)).alloc (.cells #[.int .u32 0, .int .u32 0, .slice none 0 0] 25)) w.heap.size 25 [.int .u32 lo, .int .u32 wd, .slice a l.length cap] := (Blk.new w [.int .u32 lo, .int .u32 wd, .slice a l.length cap] _).alloc _
  have W0Z : Blk ((w.alloc (.cells #[.int .u32 lo, .int .u32 wd, .slice a l.length cap] 25)).alloc (.cells #[.int .u32 0, .int .u32 0, .slice none 0 0] 25)) (w.heap.size + 1) 25 [.int .u32 0, .int .u32 0, .slice none 0 0] := by
    have := Blk.new (w.alloc (.cells #[.int .u32 lo, .int .u32 wd, .slice a l.length cap] 25)) [.int .u32 0, .int .u32 0, .slice none 0 0] 25
    rw [World.size_alloc] at this
    exact this
  have W0R : Rd8 ((w.alloc (.cells #[.int .u32 lo, .int .u32 wd, .slice a l.length cap] 25)).alloc (.cells #[.int .u32 0, .int .u32 0, .slice none 0 0] 25)) (.slice a l.length cap) l := Rd.alloc (Rd.alloc h _) _
  have W0E : Ext w ((w.alloc (.cells #[.int .u32 lo, .int .u32 wd, .slice a l.length cap] 25)).alloc (.cells #[.int .u32 0, .int .u32 0, .slice none 0 0] 25)) := ((Ext.refl w).alloc _).alloc _
  go_enter Try.func12, Try.ntmps12
  go_wp2_with fail
  refine (check_any _ _ _ l _ W0R).mono ?_
  rw [Hk.out]
  rintro e w1 ⟨rfl, g1⟩
  have W1B := W0B.ext g1
  have W1Z := W0Z.ext g1
  have pb0 := W1B.cell 0 _ rfl
  have pb1 := W1B.cell 1 _ rfl
  have pb2 := W1B.cell 2 _ rfl
  have pz0 := W1Z.cell 0 _ rfl
  have pz1 := W1Z.cell 1 _ rfl
  have pz2 := W1Z.cell 2 _ rfl
  have py0 := W1Z.frozen 0
  have py1 := W1Z.frozen 1
  have py2 := W1Z.frozen 2
  go_wp2_with fail
  refine (probable_any _ _).mono ?_
  rw [Hp.out]
  rintro e w2 ⟨rfl, rfl⟩
  go_wp2_with fail
  refine (open_any lo wd _ l hl0 hl1 (by omega) _ (W0R.ext g1)).mono ?_
  rintro e w3 ⟨q, v3, rfl, hB3, hO3, hq3, hs3, g3⟩
  have hBs : w.heap.size + 2 ≤ w3.heap.size := by have := W0Z.lt; simp at this; have := g1.size; simp at this; have := g3.size; omega
  go_wp2_with fail
  refine (encode_any q (w.heap.size + 2) wd lo 1 p v3 l hb hq3 (by omega) (by omega) hw1 hl0 hl1 c3 c4 w3 hBs hB3 ?_).mono ?_
  · exact ⟨hO3.1, hO3.2.imp id (fun ⟨g, c, cur, e1, e2, r⟩ => ⟨g, c, cur, e1, by have := g1.size; simp at this; omega, r⟩)⟩
  rw [HR.out]
  rintro e w4 ⟨rfl, v4, hB4, hO4, hq4, hC4⟩
  have gE : Chg [] w w4 := (Chg.of_ext [] ((W0E.trans g1).trans g3)).trans hC4 (by
    intro x hx
    have hs0 := W0E.size
    have hs1 := g1.size
    rcases List.mem_cons.1 hx with rfl | hx
    · exact Or.inr (by omega)
    · have := own_lt hO3 (by simpa using hx); exact Or.inr (by omega))
  have hnz : w.heap.size + 1 ∉ q :: v3.ownBlock.toList := by
    have hs1 := g1.size
    have hz := W0Z.lt
    intro hx
    rcases List.mem_cons.1 hx with rfl | hx
    · omega
    · have := own_lt hO3 (by simpa using hx); omega
  have W4Z := ((W1Z.ext g3)).chg hC4 hnz
  have hq4' : v4.ownBlock ≠ some (w.heap.size + 1) := by
    intro hx
    have := (own_lt hO4 hx).1
    omega
  obtain ⟨a4, cap4, rfl, k1, k2, k3⟩ := Rd.shape hO4.rd
  have q0 := hB4.cell 0 _ rfl
  have q1 := hB4.cell 1 _ rfl
  have q2 := hB4.cell 2 _ rfl
  have z0 := W4Z.cell 0 _ rfl
  have z1 := W4Z.cell 1 _ rfl
  have z2 := W4Z.cell 2 _ rfl
  have y0 := W4Z.frozen 0
  have y1 := W4Z.frozen 1
  have y2 := W4Z.frozen 2
  go_wp2_with fail
  refine bodyPost_ret (v := .tuple #[.agg #[.int .u32 0, .int .u32 0, .slice none 0 0], .int .i64 5]) (by simp [results, Try.results12, go_sem, z0, z1, z2]) rfl ?_
  refine ⟨none, 0, rfl, Rd8.nil _, ?_⟩
  exact ((gE.setCell (Or.inr (by simp)) _).setCell (Or.inr (by simp)) _).setCell (Or.inr (by simp)) _ |>.ext

set_option maxHeartbeats 1000000 in
theorem encode_good_1 (lo wd p : Int) (v : Value) (l : List Int) (w : World) (h : Rd8 w v l) (hc : chk wd l.length = 0) (hp : prb p = true) (hb : Bytes l) (hl0 : 0 ≤ lo) (hl1 : lo ≤ 4294967295) (hw1 : wd ≤ 4294967295) (hlen : ¬ 65536 < (enc wd lo l 1 p).2.2.length) :
    Calls Try.prog 12 #[.agg #[.int .u32 lo, .int .u32 wd, v], .int .i64 1, .int .i64 p] w fun x w' => EncPost w (encF lo wd l 1 p) x w' := by
  obtain ⟨c1, c2⟩ := chk_zero hc
  obtain ⟨c3, c4⟩ : 1 ≤ p ∧ p ≤ 4095 := by simp [prb] at hp; omega
  have hlen2 : (enc wd lo l 1 p).2.2.length ≤ 900000 := by have := enc_len wd lo l 1 p; omega
  obtain ⟨R, hR⟩ : ∃ R, enc wd lo l 1 p = R := ⟨_, rfl⟩
  have hE : encF lo wd l 1 p = (0, R.2.1, R.1, R.2.2) := by unfold encF; rw [if_neg (by simp [hc]), if_neg (by omega), if_neg (by simp [hp]), if_neg hlen, hR]
  rw [hE]
  rw [hR] at hlen hlen2
  have hlt : ¬ (65536 : Int) < (R.2.2.length : Int) := by omega
  have Hk := hidden hc
  have Hp := hidden hp
  have HR := hidden hR
  clear hc hE hp hR hlen
  obtain ⟨a, cap, rfl, h1, h2, h3⟩ := Rd.shape h
  have W0B : Blk ((w.alloc (.cells #[.int .u32 lo, .int .u32 wd, .slice a l.length cap] 25)).alloc (.cells #[.int .u32 0, .int .u32 0, .slice none 0 0] 25)) w.heap.size 25 [.int .u32 lo, .int .u32 wd, .slice a l.length cap] := (Blk.new w [.int .u32 lo, .int .u32 wd, .slice a l.length cap] _).alloc _
  have W0Z : Blk ((w.alloc (.cells #[.int .u32 lo, .int .u32 wd, .slice a l.length cap] 25)).alloc (.cells #[.int .u32 0, .int .u32 0, .slice none 0 0] 25)) (w.heap.size + 1) 25 [.int .u32 0, .int .u32 0, .slice none 0 0] := by
    have := Blk.new (w.alloc (.cells #[.int .u32 lo, .int .u32 wd, .slice a l.length cap] 25)) [.int .u32 0, .int .u32 0, .slice none 0 0] 25
    rw [World.size_alloc] at this
    exact this
  have W0R : Rd8 ((w.alloc (.cells #[.int .u32 lo, .int .u32 wd, .slice a l.length cap] 25)).alloc (.cells #[.int .u32 0, .int .u32 0, .slice none 0 0] 25)) (.slice a l.length cap) l := Rd.alloc (Rd.alloc h _) _
  have W0E : Ext w ((w.alloc (.cells #[.int .u32 lo, .int .u32 wd, .slice a l.length cap] 25)).alloc (.cells #[.int .u32 0, .int .u32 0, .slice none 0 0] 25)) := ((Ext.refl w).alloc _).alloc _
  go_enter Try.func12, Try.ntmps12
  go_wp2_with fail
  refine (check_any _ _ _ l _ W0R).mono ?_
  rw [Hk.out]
  rintro e w1 ⟨rfl, g1⟩
  have W1B := W0B.ext g1
  have W1Z := W0Z.ext g1
  have pb0 := W1B.cell 0 _ rfl
  have pb1 := W1B.cell 1 _ rfl
  have pb2 := W1B.cell 2 _ rfl
  have pz0 := W1Z.cell 0 _ rfl
  have pz1 := W1Z.cell 1 _ rfl
  have pz2 := W1Z.cell 2 _ rfl
  have py0 := W1Z.frozen 0
  have py1 := W1Z.frozen 1
  have py2 := W1Z.frozen 2
  go_wp2_with fail
  refine (probable_any _ _).mono ?_
  rw [Hp.out]
  rintro e w2 ⟨rfl, rfl⟩
  go_wp2_with fail
  refine (open_any lo wd _ l hl0 hl1 (by omega) _ (W0R.ext g1)).mono ?_
  rintro e w3 ⟨q, v3, rfl, hB3, hO3, hq3, hs3, g3⟩
  have hBs : w.heap.size + 2 ≤ w3.heap.size := by have := W0Z.lt; simp at this; have := g1.size; simp at this; have := g3.size; omega
  go_wp2_with fail
  refine (encode_any q (w.heap.size + 2) wd lo 1 p v3 l hb hq3 (by omega) (by omega) hw1 hl0 hl1 c3 c4 w3 hBs hB3 ?_).mono ?_
  · exact ⟨hO3.1, hO3.2.imp id (fun ⟨g, c, cur, e1, e2, r⟩ => ⟨g, c, cur, e1, by have := g1.size; simp at this; omega, r⟩)⟩
  rw [HR.out]
  rintro e w4 ⟨rfl, v4, hB4, hO4, hq4, hC4⟩
  have gE : Chg [] w w4 := (Chg.of_ext [] ((W0E.trans g1).trans g3)).trans hC4 (by
    intro x hx
    have hs0 := W0E.size
    have hs1 := g1.size
    rcases List.mem_cons.1 hx with rfl | hx
    · exact Or.inr (by omega)
    · have := own_lt hO3 (by simpa using hx); exact Or.inr (by omega))
  have hnz : w.heap.size + 1 ∉ q :: v3.ownBlock.toList := by
    have hs1 := g1.size
    have hz := W0Z.lt
    intro hx
    rcases List.mem_cons.1 hx with rfl | hx
    · omega
    · have := own_lt hO3 (by simpa using hx); omega
  have W4Z := ((W1Z.ext g3)).chg hC4 hnz
  have hq4' : v4.ownBlock ≠ some (w.heap.size + 1) := by
    intro hx
    have := (own_lt hO4 hx).1
    omega
  obtain ⟨a4, cap4, rfl, k1, k2, k3⟩ := Rd.shape hO4.rd
  have q0 := hB4.cell 0 _ rfl
  have q1 := hB4.cell 1 _ rfl
  have q2 := hB4.cell 2 _ rfl
  have z0 := W4Z.cell 0 _ rfl
  have z1 := W4Z.cell 1 _ rfl
  have z2 := W4Z.cell 2 _ rfl
  have y0 := W4Z.frozen 0
  have y1 := W4Z.frozen 1
  have y2 := W4Z.frozen 2
  have hlo := enc_lo wd lo l 1 p hl0 hl1 (by omega) hw1 (by omega) c4
  rw [HR.out] at hlo
  have hwr : IntKind.u32.wrap R.2.1 = R.2.1 := IntWalk.u32_in _ hlo
  have hqn : q ≠ w.heap.size + 1 := by have hs1 := g1.size; have hz := W0Z.lt; omega
  go_upto_region 12 with fail
  go_region
  go_wp2_with fail
  refine bodyPost_ret (v := .tuple #[.agg #[.int .u32 R.2.1, .int .u32 R.1, .slice a4 R.2.2.length cap4], .int .i64 0]) (by simp [results, Try.results12, go_sem, z0, z1, z2]) rfl ?_
  have hC := ((gE.drew.setCell (p := ⟨w.heap.size + 1, 0, none⟩) (Or.inr (by simp)) (.int .u32 R.2.1)).setCell (p := ⟨w.heap.size + 1, 1, none⟩) (Or.inr (by simp)) (.int .u32 R.1)).setCell (p := ⟨w.heap.size + 1, 2, none⟩) (Or.inr (by simp)) (.slice a4 R.2.2.length cap4)
  refine ⟨a4, cap4, rfl, ?_, hC.ext⟩
  have hn : (Value.slice a4 R.2.2.length cap4).ownBlock ≠ some (w.heap.size + 1) := by
    intro hx
    have hl := World.ownsRow.lt hO4 _ hx
    exact hq4' hx
  have hd := ownsRow_setCell_other (a := ⟨w.heap.size + 1, 2, none⟩) (ownsRow_setCell_other (a := ⟨w.heap.size + 1, 1, none⟩) (ownsRow_setCell_other (a := ⟨w.heap.size + 1, 0, none⟩) hO4 hn (.int .u32 R.2.1)) hn (.int .u32 R.1)) hn (.slice a4 R.2.2.length cap4)
  exact Rd.drew (Own8.rd hd)

end Go.Proofs.Ytnodnfmgklkjeaa
