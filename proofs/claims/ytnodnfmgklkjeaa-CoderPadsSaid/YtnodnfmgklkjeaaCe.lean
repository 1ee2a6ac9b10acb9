/- Begin, Finish and Encode, for every encoder. -/
import Derived.Test.YtnodnfmgklkjeaaCd
namespace Go.Proofs.Ytnodnfmgklkjeaa
open Go.RowKit
set_option linter.unusedVariables false
attribute [local go_sem ↓] Go.wp_at_zero Go.wp_at_succ

/-- What a function leaves that returns bytes and an error. -/
def BytesErr (w : World) (l : List Int) (err : Int) (x : Ending) (w' : World) : Prop :=
  ∃ a c, x = .returned (.tuple #[.slice a l.length c, .int .i64 err]) ∧ Rd8 w' (.slice a l.length c) l ∧ Ext w w'
theorem BytesErr.of_own {w w' : World} {B : Nat} {l : List Int} {err : Int} {v : Value} (h : Own8 w' B v l) (k : Ext w w') : BytesErr w l err (.returned (.tuple #[v, .int .i64 err])) w' := by
  obtain ⟨a, c, rfl, -⟩ := Rd.shape h.rd
  exact ⟨a, c, rfl, h.rd, k⟩

def finE (lo wd : Int) (l : List Int) : Int := chk wd l.length
def finB (lo wd : Int) (l : List Int) : List Int := if chk wd l.length ≠ 0 then [] else trim (finL lo wd l)

theorem Finish_any (lo wd : Int) (v : Value) (l : List Int) (hb : Bytes l) (hl0 : 0 ≤ lo) (hl1 : lo ≤ 4294967295) (hw1 : wd ≤ 4294967295) (w : World) (h : Rd8 w v l) :
    Calls Try.prog 19 #[.agg #[.int .u32 lo, .int .u32 wd, v]] w fun x w' => BytesErr w (finB lo wd l) (finE lo wd l) x w' := by
  obtain ⟨a, cap, rfl, h1, h2, h3⟩ := Rd.shape h
  have W0B : Blk (w.alloc (.cells #[.int .u32 lo, .int .u32 wd, .slice a l.length cap] 25)) w.heap.size 25 [.int .u32 lo, .int .u32 wd, .slice a l.length cap] := Blk.new w _ _
  have W0R : Rd8 (w.alloc (.cells #[.int .u32 lo, .int .u32 wd, .slice a l.length cap] 25)) (.slice a l.length cap) l := Rd.alloc h _
  have W0E : Ext w (w.alloc (.cells #[.int .u32 lo, .int .u32 wd, .slice a l.length cap] 25)) := (Ext.refl w).alloc _
  by_cases hc : chk wd l.length = 0
  · obtain ⟨c1, c2⟩ := chk_zero hc
    have E1 : Hid (finE lo wd l = 0) := hc
    have E2 : Hid (finB lo wd l = trim (finL lo wd l)) := by unfold finB; rw [if_neg (by simp [hc])]; rfl
    have Hk := hidden hc
    clear hc
    go_enter Try.func19, Try.ntmps19
    go_wp2_with fail
    refine (check_any _ _ _ l _ W0R).mono ?_
    rw [Hk.out]
    rintro e w1 ⟨rfl, g1⟩
    have W1B := W0B.ext g1
    have p0 := W1B.cell 0 _ rfl
    have p1 := W1B.cell 1 _ rfl
    have p2 := W1B.cell 2 _ rfl
    go_wp2_with fail
    refine (open_any lo wd _ l hl0 hl1 (by omega) _ (W0R.ext g1)).mono ?_
    rintro e w3 ⟨q, v3, rfl, hB3, hO3, hq3, hs3, g3⟩
    have hs0 := W0E.size
    have hs1 := g1.size
    have hs4 := g3.size
    go_wp2_with fail
    refine (finish_any q w1.heap.size wd lo v3 l hb hq3 (by omega) c1 hw1 hl0 hl1 w3 hs4 hB3 hO3).mono ?_
    rintro e w4 ⟨v4, rfl, hO4, hC4⟩
    have gE : Chg [] w w4 := (Chg.of_ext [] ((W0E.trans g1).trans g3)).trans hC4 (by
      intro x hx
      rcases List.mem_cons.1 hx with rfl | hx
      · exact Or.inr (by omega)
      · have := own_lt hO3 (by simpa using hx); exact Or.inr (by omega))
    go_wp2_with fail
    go_ret2
    rw [E1.out, E2.out]
    exact BytesErr.of_own hO4 gE.ext
  · obtain ⟨k, hk⟩ : ∃ k, chk wd l.length = k := ⟨_, rfl⟩
    have hz : (k != 0) = true := by rw [← hk]; simp [hc]
    have E1 : Hid (finE lo wd l = k) := hk
    have E2 : Hid (finB lo wd l = []) := by unfold finB; rw [if_pos hc]; rfl
    have Hk := hidden hk
    clear hc hk
    go_enter Try.func19, Try.ntmps19
    go_wp2_with fail
    refine (check_any _ _ _ l _ W0R).mono ?_
    rw [Hk.out]
    rintro e w1 ⟨rfl, g1⟩
    go_wp2_with fail
    go_ret2
    rw [E1.out, E2.out]
    exact ⟨none, 0, rfl, Rd8.nil _, W0E.trans g1⟩

/-- Encode, for every encoder, number and probability. -/
theorem Encode_any (lo wd bit p : Int) (v : Value) (l : List Int) (hb : Bytes l) (hl0 : 0 ≤ lo) (hl1 : lo ≤ 4294967295) (hw1 : wd ≤ 4294967295) (w : World) (h : Rd8 w v l) :
    Calls Try.prog 12 #[.agg #[.int .u32 lo, .int .u32 wd, v], .int .i64 bit, .int .i64 p] w fun x w' => EncPost w (encF lo wd l bit p) x w' := by
  by_cases hc : chk wd l.length = 0
  · by_cases h0 : bit = 0
    · subst h0
      cases hp : prb p
      · exact encode_bad3_0 lo wd p v l w h hc hp
      · by_cases hlen : 65536 < (enc wd lo l 0 p).2.2.length
        · exact encode_long_0 lo wd p v l w h hc hp hb hl0 hl1 hw1 hlen
        · exact encode_good_0 lo wd p v l w h hc hp hb hl0 hl1 hw1 hlen
    · by_cases h1 : bit = 1
      · subst h1
        cases hp : prb p
        · exact encode_bad3_1 lo wd p v l w h hc hp
        · by_cases hlen : 65536 < (enc wd lo l 1 p).2.2.length
          · exact encode_long_1 lo wd p v l w h hc hp hb hl0 hl1 hw1 hlen
          · exact encode_good_1 lo wd p v l w h hc hp hb hl0 hl1 hw1 hlen
      · exact encode_bad2 lo wd bit p v l w h hc h0 h1
  · exact encode_bad1 lo wd bit p v l w h hc

theorem Begin_any (w : World) :
    Calls Try.prog 15 #[] w fun x w' => x = .returned (.agg #[.int .u32 0, .int .u32 4294967295, .slice none 0 0]) ∧ Ext w w' := by
  go_enter Try.func15, Try.ntmps15
  go_wp2_with fail
  refine bodyPost_ret (v := .agg #[.int .u32 0, .int .u32 4294967295, .slice none 0 0]) (by simp [results, Try.results15, go_sem]) rfl ?_
  exact ⟨rfl, (Ext.refl _).alloc _⟩
theorem rBegin_any (w : World) :
    Calls Try.prog 16 #[] w fun x w' => x = .returned (.agg #[.int .u32 0, .int .u32 4294967295, .slice none 0 0]) ∧ Ext w w' := by
  go_enter Try.func16, Try.ntmps16
  go_wp2_with fail
  refine bodyPost_ret (v := .agg #[.int .u32 0, .int .u32 4294967295, .slice none 0 0]) (by simp [results, Try.results16, go_sem]) rfl ?_
  exact ⟨rfl, (Ext.refl _).alloc _⟩
end Go.Proofs.Ytnodnfmgklkjeaa
