/- put of package wire (under way). -/
import Derived.Test.YthjnchjfmbblfaaGreatDoorJh
import Derived.Test.YthjnchjfmbblfaaGreatDoorUx
import Derived.Outline
import Derived.Deep.CutRange
import Derived.Deep.DeepCutAuto
namespace Go.Proofs.YthjnchjfmbblfaaGreatDoor
open Go.RowKit
set_option linter.unusedVariables false
attribute [local go_sem ↓] Go.wp_at_zero Go.wp_at_succ

theorem grown_ext {w0 w w1 : World} (h : Ext w0 w) (o : Obj) {e : TypeId} {sz n : Nat} {v : Value} {cs : List Value} (hown : w.ownsRow w0.heap.size e sz v n cs) (hgrow : (w.alloc o).grownBy w1 v.ownBlock) : Ext w0 w1 :=
  (((Chg.of_ext [] h).alloc o).grown hgrow (fun k hk => Or.inr (own_lt hown hk).1)).ext
theorem or_mark : (List.range 8).all (fun k => (List.range (2 ^ (7 - k))).all (fun x => decide (bits .or .u8 ((255 * 2 ^ (8 - k)) % 256) (x : Int) = 256 - 2 ^ (8 - k) + (x : Int)))) = true := by decide +kernel
theorem whead_bits (k : Nat) (m : Int) (m0 : 0 ≤ m) (m1 : m ≤ 9007199254740991) (hk : fur m = k) : bits .or .u8 ((255 * 2 ^ (8 - k)) % 256) (m / 2 ^ (8 * k)) = whead m ∧ m / 2 ^ (8 * k) % 256 = m / 2 ^ (8 * k) := by
  have h7 := fur_7 m m0 m1
  have hw := whigh m m0 m1
  rw [hk] at h7 hw
  obtain ⟨x, hx⟩ := Int.eq_ofNat_of_zero_le hw.1
  unfold whead
  rw [hk]
  rw [hx] at hw ⊢
  have hx2 : x < 2 ^ (7 - k) := by
    have := hw.2
    have e : ((2 ^ (7 - k) : Nat) : Int) = (2 : Int) ^ (7 - k) := by simp
    omega
  have h1 := List.all_eq_true.1 or_mark k (by simp; omega)
  have h2 := List.all_eq_true.1 h1 x (by simpa using hx2)
  have h3 : 2 ^ (7 - k) ≤ 2 ^ 7 := Nat.pow_le_pow_right (by decide) (by omega)
  exact ⟨of_decide_eq_true h2, Int.emod_eq_of_lt (by omega) (by omega)⟩
theorem wenc_0 (m : Int) (hk : fur m = 0) : wenc m = whead m :: [] := by
  unfold wenc
  rw [hk]
  simp [wtail]
theorem wenc_1 (m : Int) (hk : fur m = 1) : wenc m = whead m :: [m % 256] := by
  unfold wenc
  rw [hk]
  simp [wtail]
theorem wenc_2 (m : Int) (hk : fur m = 2) : wenc m = whead m :: [m / 256 % 256, m % 256] := by
  unfold wenc
  rw [hk]
  simp [wtail]
theorem wenc_3 (m : Int) (hk : fur m = 3) : wenc m = whead m :: [m / 65536 % 256, m / 256 % 256, m % 256] := by
  unfold wenc
  rw [hk]
  simp [wtail]
theorem wenc_4 (m : Int) (hk : fur m = 4) : wenc m = whead m :: [m / 16777216 % 256, m / 65536 % 256, m / 256 % 256, m % 256] := by
  unfold wenc
  rw [hk]
  simp [wtail]
theorem wenc_5 (m : Int) (hk : fur m = 5) : wenc m = whead m :: [m / 4294967296 % 256, m / 16777216 % 256, m / 65536 % 256, m / 256 % 256, m % 256] := by
  unfold wenc
  rw [hk]
  simp [wtail]
theorem wenc_6 (m : Int) (hk : fur m = 6) : wenc m = whead m :: [m / 1099511627776 % 256, m / 4294967296 % 256, m / 16777216 % 256, m / 65536 % 256, m / 256 % 256, m % 256] := by
  unfold wenc
  rw [hk]
  simp [wtail]
theorem wenc_7 (m : Int) (hk : fur m = 7) : wenc m = whead m :: [m / 281474976710656 % 256, m / 1099511627776 % 256, m / 4294967296 % 256, m / 16777216 % 256, m / 65536 % 256, m / 256 % 256, m % 256] := by
  unfold wenc
  rw [hk]
  simp [wtail]
set_option maxHeartbeats 2000000 in
set_option maxRecDepth 100000 in
theorem wput_0 (v : Value) (D : List Int) (n m : Int) (hm : wnum n = m) (m0 : 0 ≤ m) (m1 : m ≤ 9007199254740991) (hk : fur m = 0) (hD : D.length ≤ 900000) (w0 w : World) (hE : Ext w0 w) (hO : Own8 w w0.heap.size v D) :
    Calls Tryz.prog 46 #[v, .int .i64 n] w fun x w' => ∃ v', x = .returned v' ∧ Own8 w' w0.heap.size v' (D ++ wenc m) ∧ Ext w0 w' := by
  obtain ⟨i0, hi, hz0, hz1, hz2⟩ := info_parts u8info
  have hnum := wnumber_any n
  rw [hm] at hnum
  have hfu := fun w => wfurther_any m m0 (by omega) w
  rw [hk] at hfu
  replace hk := hidden hk
  replace hnum := hidden hnum
  replace hfu := hidden hfu
  have hown0 := hO
  have hsz := hE.size
  clear hm hO
  go_enter Tryz.func46, Tryz.ntmps46
  go_wp2_with fail
  refine (hnum.out _).mono ?_
  rintro e _ ⟨rfl, rfl⟩
  go_wp2_with fail
  refine (hfu.out _).mono ?_
  rintro e _ ⟨rfl, rfl⟩
  go_wp2_with (at_builtin; refine wpList_append_own _ rfl _ _ 36 rfl w0.heap.size 5 i0 (.int .u8 0) 1 1 Tryz.underlying36 hi hz0 hz1 hz2 rfl (by decide) v D.length (bs D) rfl (World.ownsRow.alloc hown0 _) ⟨w.heap.size, 0, none⟩ 1 1 [.int .u8 (bits .or .u8 0 (m % 256))] rfl rfl (World.news_of_block (cs := #[.int .u8 (bits .or .u8 0 (m % 256))]) (t := 5) (fr := (0, 0)) (heap_alloc_new w _)) (by simp [Value.oneCell']) (by unfold maxLen; omega) (by omega) (by simp; omega) ?_; intro v1 w1 hown1 hgrow1 hnil1; have hsz1 := hgrow1.size; simp at hsz1)
  refine wp_loop_rounds 1 ?_
  rw [rounds_succ]
  go_wp2_with fail
  go_ret
  refine ⟨v1, rfl, ?_, grown_ext hE _ hown0 hgrow1⟩
  have e1 : bits .or .u8 0 (m % 256) = whead m := by
    have h := whead_bits 0 m m0 m1 hk.out
    simp at h
    rw [h.2]
    exact h.1
  have e2 : bs (D ++ wenc m) = bs D ++ [.int .u8 (bits .or .u8 0 (m % 256))] := by
    rw [wenc_0 m hk.out, bs_app]
    simp [bs, e1]
  have e3 : (D ++ wenc m).length = D.length + 1 := by rw [wenc_0 m hk.out]; simp
  unfold Own8
  rw [e2, e3]
  exact hown1
set_option maxHeartbeats 2000000 in
set_option maxRecDepth 100000 in
theorem wput_1 (v : Value) (D : List Int) (n m : Int) (hm : wnum n = m) (m0 : 0 ≤ m) (m1 : m ≤ 9007199254740991) (hk : fur m = 1) (hD : D.length ≤ 900000) (w0 w : World) (hE : Ext w0 w) (hO : Own8 w w0.heap.size v D) :
    Calls Tryz.prog 46 #[v, .int .i64 n] w fun x w' => ∃ v', x = .returned v' ∧ Own8 w' w0.heap.size v' (D ++ wenc m) ∧ Ext w0 w' := by
  obtain ⟨i0, hi, hz0, hz1, hz2⟩ := info_parts u8info
  have hnum := wnumber_any n
  rw [hm] at hnum
  have hfu := fun w => wfurther_any m m0 (by omega) w
  rw [hk] at hfu
  replace hk := hidden hk
  replace hnum := hidden hnum
  replace hfu := hidden hfu
  have hown0 := hO
  have hsz := hE.size
  clear hm hO
  go_enter Tryz.func46, Tryz.ntmps46
  go_wp2_with fail
  refine (hnum.out _).mono ?_
  rintro e _ ⟨rfl, rfl⟩
  go_wp2_with fail
  refine (hfu.out _).mono ?_
  rintro e _ ⟨rfl, rfl⟩
  go_wp2_with (at_builtin; refine wpList_append_own _ rfl _ _ 36 rfl w0.heap.size 5 i0 (.int .u8 0) 1 1 Tryz.underlying36 hi hz0 hz1 hz2 rfl (by decide) v D.length (bs D) rfl (World.ownsRow.alloc hown0 _) ⟨w.heap.size, 0, none⟩ 1 1 [.int .u8 (bits .or .u8 128 (m / 256 % 256))] rfl rfl (World.news_of_block (cs := #[.int .u8 (bits .or .u8 128 (m / 256 % 256))]) (t := 5) (fr := (0, 0)) (heap_alloc_new w _)) (by simp [Value.oneCell']) (by unfold maxLen; omega) (by omega) (by simp; omega) ?_; intro v1 w1 hown1 hgrow1 hnil1; have hsz1 := hgrow1.size; simp at hsz1)
  refine wp_loop_rounds 2 ?_
  rw [rounds_succ]
  go_wp2_with (at_builtin; refine wpList_append_own _ rfl _ _ 36 rfl w0.heap.size 5 i0 (.int .u8 0) 1 1 Tryz.underlying36 hi hz0 hz1 hz2 rfl (by decide) v1 (D.length + 1) (bs D ++ [.int .u8 (bits .or .u8 128 (m / 256 % 256))]) rfl (World.ownsRow.alloc hown1 _) ⟨w1.heap.size, 0, none⟩ 1 1 [.int .u8 (m % 256)] rfl rfl (World.news_of_block (cs := #[.int .u8 (m % 256)]) (t := 5) (fr := (0, 0)) (heap_alloc_new w1 _)) (by simp [Value.oneCell']) (by unfold maxLen; omega) (by omega) (by simp; omega) ?_; intro v2 w2 hown2 hgrow2 hnil2; have hsz2 := hgrow2.size; simp at hsz2)
  go_wp2_with fail
  rw [rounds_succ]
  go_wp2_with fail
  go_ret
  refine ⟨v2, rfl, ?_, grown_ext (grown_ext hE _ hown0 hgrow1) _ hown1 hgrow2⟩
  have e1 : bits .or .u8 128 (m / 256) = whead m ∧ m / 256 % 256 = m / 256 := by simpa using whead_bits 1 m m0 m1 hk.out
  have e2 : bs (D ++ wenc m) = bs D ++ [.int .u8 (bits .or .u8 128 (m / 256 % 256))] ++ [.int .u8 (m % 256)] := by
    rw [wenc_1 m hk.out, bs_app]
    simp [bs, e1]
  have e3 : (D ++ wenc m).length = D.length + 1 + 1 := by rw [wenc_1 m hk.out]; simp
  unfold Own8
  rw [e2, e3]
  exact hown2
set_option maxHeartbeats 2000000 in
set_option maxRecDepth 100000 in
theorem wput_2 (v : Value) (D : List Int) (n m : Int) (hm : wnum n = m) (m0 : 0 ≤ m) (m1 : m ≤ 9007199254740991) (hk : fur m = 2) (hD : D.length ≤ 900000) (w0 w : World) (hE : Ext w0 w) (hO : Own8 w w0.heap.size v D) :
    Calls Tryz.prog 46 #[v, .int .i64 n] w fun x w' => ∃ v', x = .returned v' ∧ Own8 w' w0.heap.size v' (D ++ wenc m) ∧ Ext w0 w' := by
  obtain ⟨i0, hi, hz0, hz1, hz2⟩ := info_parts u8info
  have hnum := wnumber_any n
  rw [hm] at hnum
  have hfu := fun w => wfurther_any m m0 (by omega) w
  rw [hk] at hfu
  replace hk := hidden hk
  replace hnum := hidden hnum
  replace hfu := hidden hfu
  have hown0 := hO
  have hsz := hE.size
  clear hm hO
  go_enter Tryz.func46, Tryz.ntmps46
  go_wp2_with fail
  refine (hnum.out _).mono ?_
  rintro e _ ⟨rfl, rfl⟩
  go_wp2_with fail
  refine (hfu.out _).mono ?_
  rintro e _ ⟨rfl, rfl⟩
  go_wp2_with (at_builtin; refine wpList_append_own _ rfl _ _ 36 rfl w0.heap.size 5 i0 (.int .u8 0) 1 1 Tryz.underlying36 hi hz0 hz1 hz2 rfl (by decide) v D.length (bs D) rfl (World.ownsRow.alloc hown0 _) ⟨w.heap.size, 0, none⟩ 1 1 [.int .u8 (bits .or .u8 192 (m / 65536 % 256))] rfl rfl (World.news_of_block (cs := #[.int .u8 (bits .or .u8 192 (m / 65536 % 256))]) (t := 5) (fr := (0, 0)) (heap_alloc_new w _)) (by simp [Value.oneCell']) (by unfold maxLen; omega) (by omega) (by simp; omega) ?_; intro v1 w1 hown1 hgrow1 hnil1; have hsz1 := hgrow1.size; simp at hsz1)
  refine wp_loop_rounds 3 ?_
  rw [rounds_succ]
  go_wp2_with (at_builtin; refine wpList_append_own _ rfl _ _ 36 rfl w0.heap.size 5 i0 (.int .u8 0) 1 1 Tryz.underlying36 hi hz0 hz1 hz2 rfl (by decide) v1 (D.length + 1) (bs D ++ [.int .u8 (bits .or .u8 192 (m / 65536 % 256))]) rfl (World.ownsRow.alloc hown1 _) ⟨w1.heap.size, 0, none⟩ 1 1 [.int .u8 (m / 256 % 256)] rfl rfl (World.news_of_block (cs := #[.int .u8 (m / 256 % 256)]) (t := 5) (fr := (0, 0)) (heap_alloc_new w1 _)) (by simp [Value.oneCell']) (by unfold maxLen; omega) (by omega) (by simp; omega) ?_; intro v2 w2 hown2 hgrow2 hnil2; have hsz2 := hgrow2.size; simp at hsz2)
  go_wp2_with fail
  rw [rounds_succ]
  go_wp2_with (at_builtin; refine wpList_append_own _ rfl _ _ 36 rfl w0.heap.size 5 i0 (.int .u8 0) 1 1 Tryz.underlying36 hi hz0 hz1 hz2 rfl (by decide) v2 (D.length + 1 + 1) (bs D ++ [.int .u8 (bits .or .u8 192 (m / 65536 % 256))] ++ [.int .u8 (m / 256 % 256)]) rfl (World.ownsRow.alloc hown2 _) ⟨w2.heap.size, 0, none⟩ 1 1 [.int .u8 (m % 256)] rfl rfl (World.news_of_block (cs := #[.int .u8 (m % 256)]) (t := 5) (fr := (0, 0)) (heap_alloc_new w2 _)) (by simp [Value.oneCell']) (by unfold maxLen; omega) (by omega) (by simp; omega) ?_; intro v3 w3 hown3 hgrow3 hnil3; have hsz3 := hgrow3.size; simp at hsz3)
  go_wp2_with fail
  rw [rounds_succ]
  go_wp2_with fail
  go_ret
  refine ⟨v3, rfl, ?_, grown_ext (grown_ext (grown_ext hE _ hown0 hgrow1) _ hown1 hgrow2) _ hown2 hgrow3⟩
  have e1 : bits .or .u8 192 (m / 65536) = whead m ∧ m / 65536 % 256 = m / 65536 := by simpa using whead_bits 2 m m0 m1 hk.out
  have e2 : bs (D ++ wenc m) = bs D ++ [.int .u8 (bits .or .u8 192 (m / 65536 % 256))] ++ [.int .u8 (m / 256 % 256)] ++ [.int .u8 (m % 256)] := by
    rw [wenc_2 m hk.out, bs_app]
    simp [bs, e1]
  have e3 : (D ++ wenc m).length = D.length + 1 + 1 + 1 := by rw [wenc_2 m hk.out]; simp
  unfold Own8
  rw [e2, e3]
  exact hown3
set_option maxHeartbeats 2000000 in
set_option maxRecDepth 100000 in
theorem wput_3 (v : Value) (D : List Int) (n m : Int) (hm : wnum n = m) (m0 : 0 ≤ m) (m1 : m ≤ 9007199254740991) (hk : fur m = 3) (hD : D.length ≤ 900000) (w0 w : World) (hE : Ext w0 w) (hO : Own8 w w0.heap.size v D) :
    Calls Tryz.prog 46 #[v, .int .i64 n] w fun x w' => ∃ v', x = .returned v' ∧ Own8 w' w0.heap.size v' (D ++ wenc m) ∧ Ext w0 w' := by
  obtain ⟨i0, hi, hz0, hz1, hz2⟩ := info_parts u8info
  have hnum := wnumber_any n
  rw [hm] at hnum
  have hfu := fun w => wfurther_any m m0 (by omega) w
  rw [hk] at hfu
  replace hk := hidden hk
  replace hnum := hidden hnum
  replace hfu := hidden hfu
  have hown0 := hO
  have hsz := hE.size
  clear hm hO
  go_enter Tryz.func46, Tryz.ntmps46
  go_wp2_with fail
  refine (hnum.out _).mono ?_
  rintro e _ ⟨rfl, rfl⟩
  go_wp2_with fail
  refine (hfu.out _).mono ?_
  rintro e _ ⟨rfl, rfl⟩
  go_wp2_with (at_builtin; refine wpList_append_own _ rfl _ _ 36 rfl w0.heap.size 5 i0 (.int .u8 0) 1 1 Tryz.underlying36 hi hz0 hz1 hz2 rfl (by decide) v D.length (bs D) rfl (World.ownsRow.alloc hown0 _) ⟨w.heap.size, 0, none⟩ 1 1 [.int .u8 (bits .or .u8 224 (m / 16777216 % 256))] rfl rfl (World.news_of_block (cs := #[.int .u8 (bits .or .u8 224 (m / 16777216 % 256))]) (t := 5) (fr := (0, 0)) (heap_alloc_new w _)) (by simp [Value.oneCell']) (by unfold maxLen; omega) (by omega) (by simp; omega) ?_; intro v1 w1 hown1 hgrow1 hnil1; have hsz1 := hgrow1.size; simp at hsz1)
  refine wp_loop_rounds 4 ?_
  rw [rounds_succ]
  go_wp2_with (at_builtin; refine wpList_append_own _ rfl _ _ 36 rfl w0.heap.size 5 i0 (.int .u8 0) 1 1 Tryz.underlying36 hi hz0 hz1 hz2 rfl (by decide) v1 (D.length + 1) (bs D ++ [.int .u8 (bits .or .u8 224 (m / 16777216 % 256))]) rfl (World.ownsRow.alloc hown1 _) ⟨w1.heap.size, 0, none⟩ 1 1 [.int .u8 (m / 65536 % 256)] rfl rfl (World.news_of_block (cs := #[.int .u8 (m / 65536 % 256)]) (t := 5) (fr := (0, 0)) (heap_alloc_new w1 _)) (by simp [Value.oneCell']) (by unfold maxLen; omega) (by omega) (by simp; omega) ?_; intro v2 w2 hown2 hgrow2 hnil2; have hsz2 := hgrow2.size; simp at hsz2)
  go_wp2_with fail
  rw [rounds_succ]
  go_wp2_with (at_builtin; refine wpList_append_own _ rfl _ _ 36 rfl w0.heap.size 5 i0 (.int .u8 0) 1 1 Tryz.underlying36 hi hz0 hz1 hz2 rfl (by decide) v2 (D.length + 1 + 1) (bs D ++ [.int .u8 (bits .or .u8 224 (m / 16777216 % 256))] ++ [.int .u8 (m / 65536 % 256)]) rfl (World.ownsRow.alloc hown2 _) ⟨w2.heap.size, 0, none⟩ 1 1 [.int .u8 (m / 256 % 256)] rfl rfl (World.news_of_block (cs := #[.int .u8 (m / 256 % 256)]) (t := 5) (fr := (0, 0)) (heap_alloc_new w2 _)) (by simp [Value.oneCell']) (by unfold maxLen; omega) (by omega) (by simp; omega) ?_; intro v3 w3 hown3 hgrow3 hnil3; have hsz3 := hgrow3.size; simp at hsz3)
  go_wp2_with fail
  rw [rounds_succ]
  go_wp2_with (at_builtin; refine wpList_append_own _ rfl _ _ 36 rfl w0.heap.size 5 i0 (.int .u8 0) 1 1 Tryz.underlying36 hi hz0 hz1 hz2 rfl (by decide) v3 (D.length + 1 + 1 + 1) (bs D ++ [.int .u8 (bits .or .u8 224 (m / 16777216 % 256))] ++ [.int .u8 (m / 65536 % 256)] ++ [.int .u8 (m / 256 % 256)]) rfl (World.ownsRow.alloc hown3 _) ⟨w3.heap.size, 0, none⟩ 1 1 [.int .u8 (m % 256)] rfl rfl (World.news_of_block (cs := #[.int .u8 (m % 256)]) (t := 5) (fr := (0, 0)) (heap_alloc_new w3 _)) (by simp [Value.oneCell']) (by unfold maxLen; omega) (by omega) (by simp; omega) ?_; intro v4 w4 hown4 hgrow4 hnil4; have hsz4 := hgrow4.size; simp at hsz4)
  go_wp2_with fail
  rw [rounds_succ]
  go_wp2_with fail
  go_ret
  refine ⟨v4, rfl, ?_, grown_ext (grown_ext (grown_ext (grown_ext hE _ hown0 hgrow1) _ hown1 hgrow2) _ hown2 hgrow3) _ hown3 hgrow4⟩
  have e1 : bits .or .u8 224 (m / 16777216) = whead m ∧ m / 16777216 % 256 = m / 16777216 := by simpa using whead_bits 3 m m0 m1 hk.out
  have e2 : bs (D ++ wenc m) = bs D ++ [.int .u8 (bits .or .u8 224 (m / 16777216 % 256))] ++ [.int .u8 (m / 65536 % 256)] ++ [.int .u8 (m / 256 % 256)] ++ [.int .u8 (m % 256)] := by
    rw [wenc_3 m hk.out, bs_app]
    simp [bs, e1]
  have e3 : (D ++ wenc m).length = D.length + 1 + 1 + 1 + 1 := by rw [wenc_3 m hk.out]; simp
  unfold Own8
  rw [e2, e3]
  exact hown4
set_option maxHeartbeats 2000000 in
set_option maxRecDepth 100000 in
theorem wput_4 (v : Value) (D : List Int) (n m : Int) (hm : wnum n = m) (m0 : 0 ≤ m) (m1 : m ≤ 9007199254740991) (hk : fur m = 4) (hD : D.length ≤ 900000) (w0 w : World) (hE : Ext w0 w) (hO : Own8 w w0.heap.size v D) :
    Calls Tryz.prog 46 #[v, .int .i64 n] w fun x w' => ∃ v', x = .returned v' ∧ Own8 w' w0.heap.size v' (D ++ wenc m) ∧ Ext w0 w' := by
  obtain ⟨i0, hi, hz0, hz1, hz2⟩ := info_parts u8info
  have hnum := wnumber_any n
  rw [hm] at hnum
  have hfu := fun w => wfurther_any m m0 (by omega) w
  rw [hk] at hfu
  replace hk := hidden hk
  replace hnum := hidden hnum
  replace hfu := hidden hfu
  have hown0 := hO
  have hsz := hE.size
  clear hm hO
  go_enter Tryz.func46, Tryz.ntmps46
  go_wp2_with fail
  refine (hnum.out _).mono ?_
  rintro e _ ⟨rfl, rfl⟩
  go_wp2_with fail
  refine (hfu.out _).mono ?_
  rintro e _ ⟨rfl, rfl⟩
  go_wp2_with (at_builtin; refine wpList_append_own _ rfl _ _ 36 rfl w0.heap.size 5 i0 (.int .u8 0) 1 1 Tryz.underlying36 hi hz0 hz1 hz2 rfl (by decide) v D.length (bs D) rfl (World.ownsRow.alloc hown0 _) ⟨w.heap.size, 0, none⟩ 1 1 [.int .u8 (bits .or .u8 240 (m / 4294967296 % 256))] rfl rfl (World.news_of_block (cs := #[.int .u8 (bits .or .u8 240 (m / 4294967296 % 256))]) (t := 5) (fr := (0, 0)) (heap_alloc_new w _)) (by simp [Value.oneCell']) (by unfold maxLen; omega) (by omega) (by simp; omega) ?_; intro v1 w1 hown1 hgrow1 hnil1; have hsz1 := hgrow1.size; simp at hsz1)
  refine wp_loop_rounds 5 ?_
  rw [rounds_succ]
  go_wp2_with (at_builtin; refine wpList_append_own _ rfl _ _ 36 rfl w0.heap.size 5 i0 (.int .u8 0) 1 1 Tryz.underlying36 hi hz0 hz1 hz2 rfl (by decide) v1 (D.length + 1) (bs D ++ [.int .u8 (bits .or .u8 240 (m / 4294967296 % 256))]) rfl (World.ownsRow.alloc hown1 _) ⟨w1.heap.size, 0, none⟩ 1 1 [.int .u8 (m / 16777216 % 256)] rfl rfl (World.news_of_block (cs := #[.int .u8 (m / 16777216 % 256)]) (t := 5) (fr := (0, 0)) (heap_alloc_new w1 _)) (by simp [Value.oneCell']) (by unfold maxLen; omega) (by omega) (by simp; omega) ?_; intro v2 w2 hown2 hgrow2 hnil2; have hsz2 := hgrow2.size; simp at hsz2)
  go_wp2_with fail
  rw [rounds_succ]
  go_wp2_with (at_builtin; refine wpList_append_own _ rfl _ _ 36 rfl w0.heap.size 5 i0 (.int .u8 0) 1 1 Tryz.underlying36 hi hz0 hz1 hz2 rfl (by decide) v2 (D.length + 1 + 1) (bs D ++ [.int .u8 (bits .or .u8 240 (m / 4294967296 % 256))] ++ [.int .u8 (m / 16777216 % 256)]) rfl (World.ownsRow.alloc hown2 _) ⟨w2.heap.size, 0, none⟩ 1 1 [.int .u8 (m / 65536 % 256)] rfl rfl (World.news_of_block (cs := #[.int .u8 (m / 65536 % 256)]) (t := 5) (fr := (0, 0)) (heap_alloc_new w2 _)) (by simp [Value.oneCell']) (by unfold maxLen; omega) (by omega) (by simp; omega) ?_; intro v3 w3 hown3 hgrow3 hnil3; have hsz3 := hgrow3.size; simp at hsz3)
  go_wp2_with fail
  rw [rounds_succ]
  go_wp2_with (at_builtin; refine wpList_append_own _ rfl _ _ 36 rfl w0.heap.size 5 i0 (.int .u8 0) 1 1 Tryz.underlying36 hi hz0 hz1 hz2 rfl (by decide) v3 (D.length + 1 + 1 + 1) (bs D ++ [.int .u8 (bits .or .u8 240 (m / 4294967296 % 256))] ++ [.int .u8 (m / 16777216 % 256)] ++ [.int .u8 (m / 65536 % 256)]) rfl (World.ownsRow.alloc hown3 _) ⟨w3.heap.size, 0, none⟩ 1 1 [.int .u8 (m / 256 % 256)] rfl rfl (World.news_of_block (cs := #[.int .u8 (m / 256 % 256)]) (t := 5) (fr := (0, 0)) (heap_alloc_new w3 _)) (by simp [Value.oneCell']) (by unfold maxLen; omega) (by omega) (by simp; omega) ?_; intro v4 w4 hown4 hgrow4 hnil4; have hsz4 := hgrow4.size; simp at hsz4)
  go_wp2_with fail
  rw [rounds_succ]
  go_wp2_with (at_builtin; refine wpList_append_own _ rfl _ _ 36 rfl w0.heap.size 5 i0 (.int .u8 0) 1 1 Tryz.underlying36 hi hz0 hz1 hz2 rfl (by decide) v4 (D.length + 1 + 1 + 1 + 1) (bs D ++ [.int .u8 (bits .or .u8 240 (m / 4294967296 % 256))] ++ [.int .u8 (m / 16777216 % 256)] ++ [.int .u8 (m / 65536 % 256)] ++ [.int .u8 (m / 256 % 256)]) rfl (World.ownsRow.alloc hown4 _) ⟨w4.heap.size, 0, none⟩ 1 1 [.int .u8 (m % 256)] rfl rfl (World.news_of_block (cs := #[.int .u8 (m % 256)]) (t := 5) (fr := (0, 0)) (heap_alloc_new w4 _)) (by simp [Value.oneCell']) (by unfold maxLen; omega) (by omega) (by simp; omega) ?_; intro v5 w5 hown5 hgrow5 hnil5; have hsz5 := hgrow5.size; simp at hsz5)
  go_wp2_with fail
  rw [rounds_succ]
  go_wp2_with fail
  go_ret
  refine ⟨v5, rfl, ?_, grown_ext (grown_ext (grown_ext (grown_ext (grown_ext hE _ hown0 hgrow1) _ hown1 hgrow2) _ hown2 hgrow3) _ hown3 hgrow4) _ hown4 hgrow5⟩
  have e1 : bits .or .u8 240 (m / 4294967296) = whead m ∧ m / 4294967296 % 256 = m / 4294967296 := by simpa using whead_bits 4 m m0 m1 hk.out
  have e2 : bs (D ++ wenc m) = bs D ++ [.int .u8 (bits .or .u8 240 (m / 4294967296 % 256))] ++ [.int .u8 (m / 16777216 % 256)] ++ [.int .u8 (m / 65536 % 256)] ++ [.int .u8 (m / 256 % 256)] ++ [.int .u8 (m % 256)] := by
    rw [wenc_4 m hk.out, bs_app]
    simp [bs, e1]
  have e3 : (D ++ wenc m).length = D.length + 1 + 1 + 1 + 1 + 1 := by rw [wenc_4 m hk.out]; simp
  unfold Own8
  rw [e2, e3]
  exact hown5
set_option maxHeartbeats 2000000 in
set_option maxRecDepth 100000 in
theorem wput_5 (v : Value) (D : List Int) (n m : Int) (hm : wnum n = m) (m0 : 0 ≤ m) (m1 : m ≤ 9007199254740991) (hk : fur m = 5) (hD : D.length ≤ 900000) (w0 w : World) (hE : Ext w0 w) (hO : Own8 w w0.heap.size v D) :
    Calls Tryz.prog 46 #[v, .int .i64 n] w fun x w' => ∃ v', x = .returned v' ∧ Own8 w' w0.heap.size v' (D ++ wenc m) ∧ Ext w0 w' := by
  obtain ⟨i0, hi, hz0, hz1, hz2⟩ := info_parts u8info
  have hnum := wnumber_any n
  rw [hm] at hnum
  have hfu := fun w => wfurther_any m m0 (by omega) w
  rw [hk] at hfu
  replace hk := hidden hk
  replace hnum := hidden hnum
  replace hfu := hidden hfu
  have hown0 := hO
  have hsz := hE.size
  clear hm hO
  go_enter Tryz.func46, Tryz.ntmps46
  go_wp2_with fail
  refine (hnum.out _).mono ?_
  rintro e _ ⟨rfl, rfl⟩
  go_wp2_with fail
  refine (hfu.out _).mono ?_
  rintro e _ ⟨rfl, rfl⟩
  go_wp2_with (at_builtin; refine wpList_append_own _ rfl _ _ 36 rfl w0.heap.size 5 i0 (.int .u8 0) 1 1 Tryz.underlying36 hi hz0 hz1 hz2 rfl (by decide) v D.length (bs D) rfl (World.ownsRow.alloc hown0 _) ⟨w.heap.size, 0, none⟩ 1 1 [.int .u8 (bits .or .u8 248 (m / 1099511627776 % 256))] rfl rfl (World.news_of_block (cs := #[.int .u8 (bits .or .u8 248 (m / 1099511627776 % 256))]) (t := 5) (fr := (0, 0)) (heap_alloc_new w _)) (by simp [Value.oneCell']) (by unfold maxLen; omega) (by omega) (by simp; omega) ?_; intro v1 w1 hown1 hgrow1 hnil1; have hsz1 := hgrow1.size; simp at hsz1)
  refine wp_loop_rounds 6 ?_
  rw [rounds_succ]
  go_wp2_with (at_builtin; refine wpList_append_own _ rfl _ _ 36 rfl w0.heap.size 5 i0 (.int .u8 0) 1 1 Tryz.underlying36 hi hz0 hz1 hz2 rfl (by decide) v1 (D.length + 1) (bs D ++ [.int .u8 (bits .or .u8 248 (m / 1099511627776 % 256))]) rfl (World.ownsRow.alloc hown1 _) ⟨w1.heap.size, 0, none⟩ 1 1 [.int .u8 (m / 4294967296 % 256)] rfl rfl (World.news_of_block (cs := #[.int .u8 (m / 4294967296 % 256)]) (t := 5) (fr := (0, 0)) (heap_alloc_new w1 _)) (by simp [Value.oneCell']) (by unfold maxLen; omega) (by omega) (by simp; omega) ?_; intro v2 w2 hown2 hgrow2 hnil2; have hsz2 := hgrow2.size; simp at hsz2)
  go_wp2_with fail
  rw [rounds_succ]
  go_wp2_with (at_builtin; refine wpList_append_own _ rfl _ _ 36 rfl w0.heap.size 5 i0 (.int .u8 0) 1 1 Tryz.underlying36 hi hz0 hz1 hz2 rfl (by decide) v2 (D.length + 1 + 1) (bs D ++ [.int .u8 (bits .or .u8 248 (m / 1099511627776 % 256))] ++ [.int .u8 (m / 4294967296 % 256)]) rfl (World.ownsRow.alloc hown2 _) ⟨w2.heap.size, 0, none⟩ 1 1 [.int .u8 (m / 16777216 % 256)] rfl rfl (World.news_of_block (cs := #[.int .u8 (m / 16777216 % 256)]) (t := 5) (fr := (0, 0)) (heap_alloc_new w2 _)) (by simp [Value.oneCell']) (by unfold maxLen; omega) (by omega) (by simp; omega) ?_; intro v3 w3 hown3 hgrow3 hnil3; have hsz3 := hgrow3.size; simp at hsz3)
  go_wp2_with fail
  rw [rounds_succ]
  go_wp2_with (at_builtin; refine wpList_append_own _ rfl _ _ 36 rfl w0.heap.size 5 i0 (.int .u8 0) 1 1 Tryz.underlying36 hi hz0 hz1 hz2 rfl (by decide) v3 (D.length + 1 + 1 + 1) (bs D ++ [.int .u8 (bits .or .u8 248 (m / 1099511627776 % 256))] ++ [.int .u8 (m / 4294967296 % 256)] ++ [.int .u8 (m / 16777216 % 256)]) rfl (World.ownsRow.alloc hown3 _) ⟨w3.heap.size, 0, none⟩ 1 1 [.int .u8 (m / 65536 % 256)] rfl rfl (World.news_of_block (cs := #[.int .u8 (m / 65536 % 256)]) (t := 5) (fr := (0, 0)) (heap_alloc_new w3 _)) (by simp [Value.oneCell']) (by unfold maxLen; omega) (by omega) (by simp; omega) ?_; intro v4 w4 hown4 hgrow4 hnil4; have hsz4 := hgrow4.size; simp at hsz4)
  go_wp2_with fail
  rw [rounds_succ]
  go_wp2_with (at_builtin; refine wpList_append_own _ rfl _ _ 36 rfl w0.heap.size 5 i0 (.int .u8 0) 1 1 Tryz.underlying36 hi hz0 hz1 hz2 rfl (by decide) v4 (D.length + 1 + 1 + 1 + 1) (bs D ++ [.int .u8 (bits .or .u8 248 (m / 1099511627776 % 256))] ++ [.int .u8 (m / 4294967296 % 256)] ++ [.int .u8 (m / 16777216 % 256)] ++ [.int .u8 (m / 65536 % 256)]) rfl (World.ownsRow.alloc hown4 _) ⟨w4.heap.size, 0, none⟩ 1 1 [.int .u8 (m / 256 % 256)] rfl rfl (World.news_of_block (cs := #[.int .u8 (m / 256 % 256)]) (t := 5) (fr := (0, 0)) (heap_alloc_new w4 _)) (by simp [Value.oneCell']) (by unfold maxLen; omega) (by omega) (by simp; omega) ?_; intro v5 w5 hown5 hgrow5 hnil5; have hsz5 := hgrow5.size; simp at hsz5)
  go_wp2_with fail
  rw [rounds_succ]
  go_wp2_with (at_builtin; refine wpList_append_own _ rfl _ _ 36 rfl w0.heap.size 5 i0 (.int .u8 0) 1 1 Tryz.underlying36 hi hz0 hz1 hz2 rfl (by decide) v5 (D.length + 1 + 1 + 1 + 1 + 1) (bs D ++ [.int .u8 (bits .or .u8 248 (m / 1099511627776 % 256))] ++ [.int .u8 (m / 4294967296 % 256)] ++ [.int .u8 (m / 16777216 % 256)] ++ [.int .u8 (m / 65536 % 256)] ++ [.int .u8 (m / 256 % 256)]) rfl (World.ownsRow.alloc hown5 _) ⟨w5.heap.size, 0, none⟩ 1 1 [.int .u8 (m % 256)] rfl rfl (World.news_of_block (cs := #[.int .u8 (m % 256)]) (t := 5) (fr := (0, 0)) (heap_alloc_new w5 _)) (by simp [Value.oneCell']) (by unfold maxLen; omega) (by omega) (by simp; omega) ?_; intro v6 w6 hown6 hgrow6 hnil6; have hsz6 := hgrow6.size; simp at hsz6)
  go_wp2_with fail
  rw [rounds_succ]
  go_wp2_with fail
  go_ret
  refine ⟨v6, rfl, ?_, grown_ext (grown_ext (grown_ext (grown_ext (grown_ext (grown_ext hE _ hown0 hgrow1) _ hown1 hgrow2) _ hown2 hgrow3) _ hown3 hgrow4) _ hown4 hgrow5) _ hown5 hgrow6⟩
  have e1 : bits .or .u8 248 (m / 1099511627776) = whead m ∧ m / 1099511627776 % 256 = m / 1099511627776 := by simpa using whead_bits 5 m m0 m1 hk.out
  have e2 : bs (D ++ wenc m) = bs D ++ [.int .u8 (bits .or .u8 248 (m / 1099511627776 % 256))] ++ [.int .u8 (m / 4294967296 % 256)] ++ [.int .u8 (m / 16777216 % 256)] ++ [.int .u8 (m / 65536 % 256)] ++ [.int .u8 (m / 256 % 256)] ++ [.int .u8 (m % 256)] := by
    rw [wenc_5 m hk.out, bs_app]
    simp [bs, e1]
  have e3 : (D ++ wenc m).length = D.length + 1 + 1 + 1 + 1 + 1 + 1 := by rw [wenc_5 m hk.out]; simp
  unfold Own8
  rw [e2, e3]
  exact hown6
set_option maxHeartbeats 2000000 in
set_option maxRecDepth 100000 in
theorem wput_6 (v : Value) (D : List Int) (n m : Int) (hm : wnum n = m) (m0 : 0 ≤ m) (m1 : m ≤ 9007199254740991) (hk : fur m = 6) (hD : D.length ≤ 900000) (w0 w : World) (hE : Ext w0 w) (hO : Own8 w w0.heap.size v D) :
    Calls Tryz.prog 46 #[v, .int .i64 n] w fun x w' => ∃ v', x = .returned v' ∧ Own8 w' w0.heap.size v' (D ++ wenc m) ∧ Ext w0 w' := by
  obtain ⟨i0, hi, hz0, hz1, hz2⟩ := info_parts u8info
  have hnum := wnumber_any n
  rw [hm] at hnum
  have hfu := fun w => wfurther_any m m0 (by omega) w
  rw [hk] at hfu
  replace hk := hidden hk
  replace hnum := hidden hnum
  replace hfu := hidden hfu
  have hown0 := hO
  have hsz := hE.size
  clear hm hO
  go_enter Tryz.func46, Tryz.ntmps46
  go_wp2_with fail
  refine (hnum.out _).mono ?_
  rintro e _ ⟨rfl, rfl⟩
  go_wp2_with fail
  refine (hfu.out _).mono ?_
  rintro e _ ⟨rfl, rfl⟩
  go_wp2_with (at_builtin; refine wpList_append_own _ rfl _ _ 36 rfl w0.heap.size 5 i0 (.int .u8 0) 1 1 Tryz.underlying36 hi hz0 hz1 hz2 rfl (by decide) v D.length (bs D) rfl (World.ownsRow.alloc hown0 _) ⟨w.heap.size, 0, none⟩ 1 1 [.int .u8 (bits .or .u8 252 (m / 281474976710656))] rfl rfl (World.news_of_block (cs := #[.int .u8 (bits .or .u8 252 (m / 281474976710656))]) (t := 5) (fr := (0, 0)) (heap_alloc_new w _)) (by simp [Value.oneCell']) (by unfold maxLen; omega) (by omega) (by simp; omega) ?_; intro v1 w1 hown1 hgrow1 hnil1; have hsz1 := hgrow1.size; simp at hsz1)
  refine wp_loop_rounds 7 ?_
  rw [rounds_succ]
  go_wp2_with (at_builtin; refine wpList_append_own _ rfl _ _ 36 rfl w0.heap.size 5 i0 (.int .u8 0) 1 1 Tryz.underlying36 hi hz0 hz1 hz2 rfl (by decide) v1 (D.length + 1) (bs D ++ [.int .u8 (bits .or .u8 252 (m / 281474976710656))]) rfl (World.ownsRow.alloc hown1 _) ⟨w1.heap.size, 0, none⟩ 1 1 [.int .u8 (m / 1099511627776 % 256)] rfl rfl (World.news_of_block (cs := #[.int .u8 (m / 1099511627776 % 256)]) (t := 5) (fr := (0, 0)) (heap_alloc_new w1 _)) (by simp [Value.oneCell']) (by unfold maxLen; omega) (by omega) (by simp; omega) ?_; intro v2 w2 hown2 hgrow2 hnil2; have hsz2 := hgrow2.size; simp at hsz2)
  go_wp2_with fail
  rw [rounds_succ]
  go_wp2_with (at_builtin; refine wpList_append_own _ rfl _ _ 36 rfl w0.heap.size 5 i0 (.int .u8 0) 1 1 Tryz.underlying36 hi hz0 hz1 hz2 rfl (by decide) v2 (D.length + 1 + 1) (bs D ++ [.int .u8 (bits .or .u8 252 (m / 281474976710656))] ++ [.int .u8 (m / 1099511627776 % 256)]) rfl (World.ownsRow.alloc hown2 _) ⟨w2.heap.size, 0, none⟩ 1 1 [.int .u8 (m / 4294967296 % 256)] rfl rfl (World.news_of_block (cs := #[.int .u8 (m / 4294967296 % 256)]) (t := 5) (fr := (0, 0)) (heap_alloc_new w2 _)) (by simp [Value.oneCell']) (by unfold maxLen; omega) (by omega) (by simp; omega) ?_; intro v3 w3 hown3 hgrow3 hnil3; have hsz3 := hgrow3.size; simp at hsz3)
  go_wp2_with fail
  rw [rounds_succ]
  go_wp2_with (at_builtin; refine wpList_append_own _ rfl _ _ 36 rfl w0.heap.size 5 i0 (.int .u8 0) 1 1 Tryz.underlying36 hi hz0 hz1 hz2 rfl (by decide) v3 (D.length + 1 + 1 + 1) (bs D ++ [.int .u8 (bits .or .u8 252 (m / 281474976710656))] ++ [.int .u8 (m / 1099511627776 % 256)] ++ [.int .u8 (m / 4294967296 % 256)]) rfl (World.ownsRow.alloc hown3 _) ⟨w3.heap.size, 0, none⟩ 1 1 [.int .u8 (m / 16777216 % 256)] rfl rfl (World.news_of_block (cs := #[.int .u8 (m / 16777216 % 256)]) (t := 5) (fr := (0, 0)) (heap_alloc_new w3 _)) (by simp [Value.oneCell']) (by unfold maxLen; omega) (by omega) (by simp; omega) ?_; intro v4 w4 hown4 hgrow4 hnil4; have hsz4 := hgrow4.size; simp at hsz4)
  go_wp2_with fail
  rw [rounds_succ]
  go_wp2_with (at_builtin; refine wpList_append_own _ rfl _ _ 36 rfl w0.heap.size 5 i0 (.int .u8 0) 1 1 Tryz.underlying36 hi hz0 hz1 hz2 rfl (by decide) v4 (D.length + 1 + 1 + 1 + 1) (bs D ++ [.int .u8 (bits .or .u8 252 (m / 281474976710656))] ++ [.int .u8 (m / 1099511627776 % 256)] ++ [.int .u8 (m / 4294967296 % 256)] ++ [.int .u8 (m / 16777216 % 256)]) rfl (World.ownsRow.alloc hown4 _) ⟨w4.heap.size, 0, none⟩ 1 1 [.int .u8 (m / 65536 % 256)] rfl rfl (World.news_of_block (cs := #[.int .u8 (m / 65536 % 256)]) (t := 5) (fr := (0, 0)) (heap_alloc_new w4 _)) (by simp [Value.oneCell']) (by unfold maxLen; omega) (by omega) (by simp; omega) ?_; intro v5 w5 hown5 hgrow5 hnil5; have hsz5 := hgrow5.size; simp at hsz5)
  go_wp2_with fail
  rw [rounds_succ]
  go_wp2_with (at_builtin; refine wpList_append_own _ rfl _ _ 36 rfl w0.heap.size 5 i0 (.int .u8 0) 1 1 Tryz.underlying36 hi hz0 hz1 hz2 rfl (by decide) v5 (D.length + 1 + 1 + 1 + 1 + 1) (bs D ++ [.int .u8 (bits .or .u8 252 (m / 281474976710656))] ++ [.int .u8 (m / 1099511627776 % 256)] ++ [.int .u8 (m / 4294967296 % 256)] ++ [.int .u8 (m / 16777216 % 256)] ++ [.int .u8 (m / 65536 % 256)]) rfl (World.ownsRow.alloc hown5 _) ⟨w5.heap.size, 0, none⟩ 1 1 [.int .u8 (m / 256 % 256)] rfl rfl (World.news_of_block (cs := #[.int .u8 (m / 256 % 256)]) (t := 5) (fr := (0, 0)) (heap_alloc_new w5 _)) (by simp [Value.oneCell']) (by unfold maxLen; omega) (by omega) (by simp; omega) ?_; intro v6 w6 hown6 hgrow6 hnil6; have hsz6 := hgrow6.size; simp at hsz6)
  go_wp2_with fail
  rw [rounds_succ]
  go_wp2_with (at_builtin; refine wpList_append_own _ rfl _ _ 36 rfl w0.heap.size 5 i0 (.int .u8 0) 1 1 Tryz.underlying36 hi hz0 hz1 hz2 rfl (by decide) v6 (D.length + 1 + 1 + 1 + 1 + 1 + 1) (bs D ++ [.int .u8 (bits .or .u8 252 (m / 281474976710656))] ++ [.int .u8 (m / 1099511627776 % 256)] ++ [.int .u8 (m / 4294967296 % 256)] ++ [.int .u8 (m / 16777216 % 256)] ++ [.int .u8 (m / 65536 % 256)] ++ [.int .u8 (m / 256 % 256)]) rfl (World.ownsRow.alloc hown6 _) ⟨w6.heap.size, 0, none⟩ 1 1 [.int .u8 (m % 256)] rfl rfl (World.news_of_block (cs := #[.int .u8 (m % 256)]) (t := 5) (fr := (0, 0)) (heap_alloc_new w6 _)) (by simp [Value.oneCell']) (by unfold maxLen; omega) (by omega) (by simp; omega) ?_; intro v7 w7 hown7 hgrow7 hnil7; have hsz7 := hgrow7.size; simp at hsz7)
  go_wp2_with fail
  rw [rounds_succ]
  go_wp2_with fail
  go_ret
  refine ⟨v7, rfl, ?_, grown_ext (grown_ext (grown_ext (grown_ext (grown_ext (grown_ext (grown_ext hE _ hown0 hgrow1) _ hown1 hgrow2) _ hown2 hgrow3) _ hown3 hgrow4) _ hown4 hgrow5) _ hown5 hgrow6) _ hown6 hgrow7⟩
  have e1 : bits .or .u8 252 (m / 281474976710656) = whead m ∧ m / 281474976710656 % 256 = m / 281474976710656 := by simpa using whead_bits 6 m m0 m1 hk.out
  have e2 : bs (D ++ wenc m) = bs D ++ [.int .u8 (bits .or .u8 252 (m / 281474976710656))] ++ [.int .u8 (m / 1099511627776 % 256)] ++ [.int .u8 (m / 4294967296 % 256)] ++ [.int .u8 (m / 16777216 % 256)] ++ [.int .u8 (m / 65536 % 256)] ++ [.int .u8 (m / 256 % 256)] ++ [.int .u8 (m % 256)] := by
    rw [wenc_6 m hk.out, bs_app]
    simp [bs, e1]
  have e3 : (D ++ wenc m).length = D.length + 1 + 1 + 1 + 1 + 1 + 1 + 1 := by rw [wenc_6 m hk.out]; simp
  unfold Own8
  rw [e2, e3]
  exact hown7
set_option maxHeartbeats 2000000 in
set_option maxRecDepth 100000 in
theorem wput_7 (v : Value) (D : List Int) (n m : Int) (hm : wnum n = m) (m0 : 0 ≤ m) (m1 : m ≤ 9007199254740991) (hk : fur m = 7) (hD : D.length ≤ 900000) (w0 w : World) (hE : Ext w0 w) (hO : Own8 w w0.heap.size v D) :
    Calls Tryz.prog 46 #[v, .int .i64 n] w fun x w' => ∃ v', x = .returned v' ∧ Own8 w' w0.heap.size v' (D ++ wenc m) ∧ Ext w0 w' := by
  obtain ⟨i0, hi, hz0, hz1, hz2⟩ := info_parts u8info
  have hnum := wnumber_any n
  rw [hm] at hnum
  have hfu := fun w => wfurther_any m m0 (by omega) w
  rw [hk] at hfu
  replace hk := hidden hk
  replace hnum := hidden hnum
  replace hfu := hidden hfu
  have hown0 := hO
  have hsz := hE.size
  clear hm hO
  go_enter Tryz.func46, Tryz.ntmps46
  go_wp2_with fail
  refine (hnum.out _).mono ?_
  rintro e _ ⟨rfl, rfl⟩
  go_wp2_with fail
  refine (hfu.out _).mono ?_
  rintro e _ ⟨rfl, rfl⟩
  go_wp2_with (at_builtin; refine wpList_append_own _ rfl _ _ 36 rfl w0.heap.size 5 i0 (.int .u8 0) 1 1 Tryz.underlying36 hi hz0 hz1 hz2 rfl (by decide) v D.length (bs D) rfl (World.ownsRow.alloc hown0 _) ⟨w.heap.size, 0, none⟩ 1 1 [.int .u8 (bits .or .u8 254 (m / 72057594037927936))] rfl rfl (World.news_of_block (cs := #[.int .u8 (bits .or .u8 254 (m / 72057594037927936))]) (t := 5) (fr := (0, 0)) (heap_alloc_new w _)) (by simp [Value.oneCell']) (by unfold maxLen; omega) (by omega) (by simp; omega) ?_; intro v1 w1 hown1 hgrow1 hnil1; have hsz1 := hgrow1.size; simp at hsz1)
  refine wp_loop_rounds 8 ?_
  rw [rounds_succ]
  go_wp2_with (at_builtin; refine wpList_append_own _ rfl _ _ 36 rfl w0.heap.size 5 i0 (.int .u8 0) 1 1 Tryz.underlying36 hi hz0 hz1 hz2 rfl (by decide) v1 (D.length + 1) (bs D ++ [.int .u8 (bits .or .u8 254 (m / 72057594037927936))]) rfl (World.ownsRow.alloc hown1 _) ⟨w1.heap.size, 0, none⟩ 1 1 [.int .u8 (m / 281474976710656)] rfl rfl (World.news_of_block (cs := #[.int .u8 (m / 281474976710656)]) (t := 5) (fr := (0, 0)) (heap_alloc_new w1 _)) (by simp [Value.oneCell']) (by unfold maxLen; omega) (by omega) (by simp; omega) ?_; intro v2 w2 hown2 hgrow2 hnil2; have hsz2 := hgrow2.size; simp at hsz2)
  go_wp2_with fail
  rw [rounds_succ]
  go_wp2_with (at_builtin; refine wpList_append_own _ rfl _ _ 36 rfl w0.heap.size 5 i0 (.int .u8 0) 1 1 Tryz.underlying36 hi hz0 hz1 hz2 rfl (by decide) v2 (D.length + 1 + 1) (bs D ++ [.int .u8 (bits .or .u8 254 (m / 72057594037927936))] ++ [.int .u8 (m / 281474976710656)]) rfl (World.ownsRow.alloc hown2 _) ⟨w2.heap.size, 0, none⟩ 1 1 [.int .u8 (m / 1099511627776 % 256)] rfl rfl (World.news_of_block (cs := #[.int .u8 (m / 1099511627776 % 256)]) (t := 5) (fr := (0, 0)) (heap_alloc_new w2 _)) (by simp [Value.oneCell']) (by unfold maxLen; omega) (by omega) (by simp; omega) ?_; intro v3 w3 hown3 hgrow3 hnil3; have hsz3 := hgrow3.size; simp at hsz3)
  go_wp2_with fail
  rw [rounds_succ]
  go_wp2_with (at_builtin; refine wpList_append_own _ rfl _ _ 36 rfl w0.heap.size 5 i0 (.int .u8 0) 1 1 Tryz.underlying36 hi hz0 hz1 hz2 rfl (by decide) v3 (D.length + 1 + 1 + 1) (bs D ++ [.int .u8 (bits .or .u8 254 (m / 72057594037927936))] ++ [.int .u8 (m / 281474976710656)] ++ [.int .u8 (m / 1099511627776 % 256)]) rfl (World.ownsRow.alloc hown3 _) ⟨w3.heap.size, 0, none⟩ 1 1 [.int .u8 (m / 4294967296 % 256)] rfl rfl (World.news_of_block (cs := #[.int .u8 (m / 4294967296 % 256)]) (t := 5) (fr := (0, 0)) (heap_alloc_new w3 _)) (by simp [Value.oneCell']) (by unfold maxLen; omega) (by omega) (by simp; omega) ?_; intro v4 w4 hown4 hgrow4 hnil4; have hsz4 := hgrow4.size; simp at hsz4)
  go_wp2_with fail
  rw [rounds_succ]
  go_wp2_with (at_builtin; refine wpList_append_own _ rfl _ _ 36 rfl w0.heap.size 5 i0 (.int .u8 0) 1 1 Tryz.underlying36 hi hz0 hz1 hz2 rfl (by decide) v4 (D.length + 1 + 1 + 1 + 1) (bs D ++ [.int .u8 (bits .or .u8 254 (m / 72057594037927936))] ++ [.int .u8 (m / 281474976710656)] ++ [.int .u8 (m / 1099511627776 % 256)] ++ [.int .u8 (m / 4294967296 % 256)]) rfl (World.ownsRow.alloc hown4 _) ⟨w4.heap.size, 0, none⟩ 1 1 [.int .u8 (m / 16777216 % 256)] rfl rfl (World.news_of_block (cs := #[.int .u8 (m / 16777216 % 256)]) (t := 5) (fr := (0, 0)) (heap_alloc_new w4 _)) (by simp [Value.oneCell']) (by unfold maxLen; omega) (by omega) (by simp; omega) ?_; intro v5 w5 hown5 hgrow5 hnil5; have hsz5 := hgrow5.size; simp at hsz5)
  go_wp2_with fail
  rw [rounds_succ]
  go_wp2_with (at_builtin; refine wpList_append_own _ rfl _ _ 36 rfl w0.heap.size 5 i0 (.int .u8 0) 1 1 Tryz.underlying36 hi hz0 hz1 hz2 rfl (by decide) v5 (D.length + 1 + 1 + 1 + 1 + 1) (bs D ++ [.int .u8 (bits .or .u8 254 (m / 72057594037927936))] ++ [.int .u8 (m / 281474976710656)] ++ [.int .u8 (m / 1099511627776 % 256)] ++ [.int .u8 (m / 4294967296 % 256)] ++ [.int .u8 (m / 16777216 % 256)]) rfl (World.ownsRow.alloc hown5 _) ⟨w5.heap.size, 0, none⟩ 1 1 [.int .u8 (m / 65536 % 256)] rfl rfl (World.news_of_block (cs := #[.int .u8 (m / 65536 % 256)]) (t := 5) (fr := (0, 0)) (heap_alloc_new w5 _)) (by simp [Value.oneCell']) (by unfold maxLen; omega) (by omega) (by simp; omega) ?_; intro v6 w6 hown6 hgrow6 hnil6; have hsz6 := hgrow6.size; simp at hsz6)
  go_wp2_with fail
  rw [rounds_succ]
  go_wp2_with (at_builtin; refine wpList_append_own _ rfl _ _ 36 rfl w0.heap.size 5 i0 (.int .u8 0) 1 1 Tryz.underlying36 hi hz0 hz1 hz2 rfl (by decide) v6 (D.length + 1 + 1 + 1 + 1 + 1 + 1) (bs D ++ [.int .u8 (bits .or .u8 254 (m / 72057594037927936))] ++ [.int .u8 (m / 281474976710656)] ++ [.int .u8 (m / 1099511627776 % 256)] ++ [.int .u8 (m / 4294967296 % 256)] ++ [.int .u8 (m / 16777216 % 256)] ++ [.int .u8 (m / 65536 % 256)]) rfl (World.ownsRow.alloc hown6 _) ⟨w6.heap.size, 0, none⟩ 1 1 [.int .u8 (m / 256 % 256)] rfl rfl (World.news_of_block (cs := #[.int .u8 (m / 256 % 256)]) (t := 5) (fr := (0, 0)) (heap_alloc_new w6 _)) (by simp [Value.oneCell']) (by unfold maxLen; omega) (by omega) (by simp; omega) ?_; intro v7 w7 hown7 hgrow7 hnil7; have hsz7 := hgrow7.size; simp at hsz7)
  go_wp2_with fail
  rw [rounds_succ]
  go_wp2_with (at_builtin; refine wpList_append_own _ rfl _ _ 36 rfl w0.heap.size 5 i0 (.int .u8 0) 1 1 Tryz.underlying36 hi hz0 hz1 hz2 rfl (by decide) v7 (D.length + 1 + 1 + 1 + 1 + 1 + 1 + 1) (bs D ++ [.int .u8 (bits .or .u8 254 (m / 72057594037927936))] ++ [.int .u8 (m / 281474976710656)] ++ [.int .u8 (m / 1099511627776 % 256)] ++ [.int .u8 (m / 4294967296 % 256)] ++ [.int .u8 (m / 16777216 % 256)] ++ [.int .u8 (m / 65536 % 256)] ++ [.int .u8 (m / 256 % 256)]) rfl (World.ownsRow.alloc hown7 _) ⟨w7.heap.size, 0, none⟩ 1 1 [.int .u8 (m % 256)] rfl rfl (World.news_of_block (cs := #[.int .u8 (m % 256)]) (t := 5) (fr := (0, 0)) (heap_alloc_new w7 _)) (by simp [Value.oneCell']) (by unfold maxLen; omega) (by omega) (by simp; omega) ?_; intro v8 w8 hown8 hgrow8 hnil8; have hsz8 := hgrow8.size; simp at hsz8)
  go_wp2_with fail
  rw [rounds_succ]
  go_wp2_with fail
  go_ret
  refine ⟨v8, rfl, ?_, grown_ext (grown_ext (grown_ext (grown_ext (grown_ext (grown_ext (grown_ext (grown_ext hE _ hown0 hgrow1) _ hown1 hgrow2) _ hown2 hgrow3) _ hown3 hgrow4) _ hown4 hgrow5) _ hown5 hgrow6) _ hown6 hgrow7) _ hown7 hgrow8⟩
  have e1 : bits .or .u8 254 (m / 72057594037927936) = whead m ∧ m / 72057594037927936 % 256 = m / 72057594037927936 := by simpa using whead_bits 7 m m0 m1 hk.out
  have e2 : bs (D ++ wenc m) = bs D ++ [.int .u8 (bits .or .u8 254 (m / 72057594037927936))] ++ [.int .u8 (m / 281474976710656)] ++ [.int .u8 (m / 1099511627776 % 256)] ++ [.int .u8 (m / 4294967296 % 256)] ++ [.int .u8 (m / 16777216 % 256)] ++ [.int .u8 (m / 65536 % 256)] ++ [.int .u8 (m / 256 % 256)] ++ [.int .u8 (m % 256)] := by
    rw [wenc_7 m hk.out, bs_app]
    simp [bs, e1]
    omega
  have e3 : (D ++ wenc m).length = D.length + 1 + 1 + 1 + 1 + 1 + 1 + 1 + 1 := by rw [wenc_7 m hk.out]; simp
  unfold Own8
  rw [e2, e3]
  exact hown8
end Go.Proofs.YthjnchjfmbblfaaGreatDoor

/- put (any number) and PutInt of package wire. -/
namespace Go.Proofs.YthjnchjfmbblfaaGreatDoor
open Go.RowKit
set_option linter.unusedVariables false
theorem wput_any (v : Value) (D : List Int) (n : Int) (hD : D.length ≤ 900000) (w0 w : World) (hE : Ext w0 w) (hO : Own8 w w0.heap.size v D) :
    Calls Tryz.prog 46 #[v, .int .i64 n] w fun x w' => ∃ v', x = .returned v' ∧ Own8 w' w0.heap.size v' (D ++ wenc (wnum n)) ∧ Ext w0 w' := by
  obtain ⟨m, hm⟩ : ∃ m, wnum n = m := ⟨_, rfl⟩
  have hb := wnum_bd n
  rw [hm] at hb ⊢
  obtain ⟨m0, m1⟩ := hb
  have h7 := fur_7 m m0 m1
  obtain ⟨k, hk⟩ : ∃ k, fur m = k := ⟨_, rfl⟩
  rw [hk] at h7
  match k, h7, hk with
  | 0, _, hk => exact wput_0 v D n m hm m0 m1 hk hD w0 w hE hO
  | 1, _, hk => exact wput_1 v D n m hm m0 m1 hk hD w0 w hE hO
  | 2, _, hk => exact wput_2 v D n m hm m0 m1 hk hD w0 w hE hO
  | 3, _, hk => exact wput_3 v D n m hm m0 m1 hk hD w0 w hE hO
  | 4, _, hk => exact wput_4 v D n m hm m0 m1 hk hD w0 w hE hO
  | 5, _, hk => exact wput_5 v D n m hm m0 m1 hk hD w0 w hE hO
  | 6, _, hk => exact wput_6 v D n m hm m0 m1 hk hD w0 w hE hO
  | 7, _, hk => exact wput_7 v D n m hm m0 m1 hk hD w0 w hE hO
  | k + 8, h7, _ => omega
theorem wputint_any (v : Value) (D : List Int) (n : Int) (hD : D.length ≤ 900000) (w : World) (h : Rd8 w v D) :
    Calls Tryz.prog 26 #[v, .int .i64 n] w fun x w' => ∃ v', x = .returned v' ∧ Own8 w' w.heap.size v' (D ++ wenc (wnum n)) ∧ Ext w w' := by
  go_enter Tryz.func26, Tryz.ntmps26
  go_wp2_with fail
  refine (clone_any v D hD _ h).mono ?_
  rintro e w1 ⟨v1, rfl, hO1, g1⟩
  go_wp2_with fail
  refine (wput_any v1 D n hD w _ g1 hO1).mono ?_
  rintro e w2 ⟨v2, rfl, hO2, g2⟩
  go_wp2_with fail
  go_ret
  exact ⟨v2, rfl, hO2, g2⟩
end Go.Proofs.YthjnchjfmbblfaaGreatDoor
