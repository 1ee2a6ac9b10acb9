/- Layer 32: the closure compare. -/
import Derived.Test.YtfebgcbkadmgiaaSfc
import Derived.Sort.Grow
import Derived.Deep.Cut
import Derived.Test.YtfebgcbkadmgiaaHu
namespace Go.Proofs.Ytfebgcbkadmgiaa
open Go.RowKit Go.Sort
set_option linter.unusedVariables false
set_option linter.unusedSimpArgs false
attribute [local go_sem ↓] Go.wp_at_zero Go.wp_at_succ

theorem callVD {P : Program} {md : Region.Mode} {ops : Array Oper} {Q : Exit → Act → World → Prop} {S : World → Prop} {D : List Nat} (i : Nat) {oi : Oper} {d : Tmp} {fuel : Nat} {listed : Array Bool} {a : Act} {w : World} (f : FuncId) (args : Array Value) {R : Ending → World → Prop} (hi : ops[i]? = some oi) (hd : oi.dst = some d)
    (hr : Region.ready md ops listed = [i]) (hw : Region.wanted oi (yielded ops a.tmps) = true) (hrun : (execOp a.eval oi).run P w = .ok (.enter f args) w) (hc : Calls P f args w R)
    (h : ∀ e w', R e w' → (∃ v, e = .returned v ∧ (i ∉ D → S w') ∧ wpAnyD P md ops Q S D fuel (listed.setIfInBounds i true) { a with tmps := a.tmps.setIfInBounds d v } w') ∨ (∃ c, e = .panicked c ∧ Q (.panic c) a w')) : wpAnyD P md ops Q S D (fuel + 1) listed a w :=
  callD i f args hi hr hw hrun hc (by rw [hd]; exact h)
set_option maxHeartbeats 4000000 in
set_option maxRecDepth 100000 in
theorem compare_any (b : List Int) (L : Nat) (rank : List Int) (x y lc nc rc rb rcap ec : Nat) (hx : x ≤ b.length) (hy : y ≤ b.length) (hL : L ≤ 131072) (hn : b.length ≤ 65536) (hrl : rank.length = b.length + 1) (w : World) (hl : w.cell? ⟨lc, 0, none⟩ = some (.int .i64 (L : Int))) (hnc : w.cell? ⟨nc, 0, none⟩ = some (.int .i64 (b.length : Int)))
    (hrc : w.cell? ⟨rc, 0, none⟩ = some (.slice (some ⟨rb, 0, none⟩) (b.length + 1) rcap)) (hrr : ∀ j, j ≤ b.length → w.cell? ⟨rb, j, none⟩ = some (.int .i64 (rank.getD j 0)))
    (hec : w.cell? ⟨ec, 0, none⟩ = some (.func (.func 14) #[] #[.pointer (some ⟨lc, 0, none⟩), .pointer (some ⟨nc, 0, none⟩), .pointer (some ⟨rc, 0, none⟩)])) :
    Calls Try.prog 15 #[.int .i64 (x : Int), .int .i64 (y : Int), .pointer (some ⟨rc, 0, none⟩), .pointer (some ⟨ec, 0, none⟩)] w fun e w' => e = .returned (.int .i64 (Suf.cmpR b L rank x y)) ∧ ∃ q os', w' = grow (w.drewN q) os' := by
  have XW := (Ext.refl w).drew
  have cr := XW.cell hrc
  have cx := XW.cell (hrr x hx)
  have cy := XW.cell (hrr y hy)
  have ce := XW.cell hec
  have hrx := hidden (rest_any b L rank x lc nc rc rb rcap hx hL hn hrl w.drew (XW.cell hl) (XW.cell hnc) cr (fun j hj => XW.cell (hrr j hj)))
  have hry := hidden (rest_any b L rank y lc nc rc rb rcap hy hL hn hrl w.drew (XW.cell hl) (XW.cell hnc) cr (fun j hj => XW.cell (hrr j hj)))
  have hRe : Hid ((if Suf.cmpI (rank.getD x 0) (rank.getD y 0) ≠ 0 then Suf.cmpI (rank.getD x 0) (rank.getD y 0) else Suf.cmpI (Suf.rst b L rank x) (Suf.rst b L rank y)) = Suf.cmpR b L rank x y) := hidden rfl
  generalize Suf.cmpR b L rank x y = R at hRe ⊢
  generalize Suf.rst b L rank x = sx' at hrx hRe
  generalize Suf.rst b L rank y = sy' at hry hRe
  generalize rank.getD x 0 = rx at cx hRe
  generalize rank.getD y 0 = ry at cy hRe
  obtain ⟨n, hne⟩ : ∃ n, b.length = n := ⟨_, rfl⟩
  rw [hne] at hx hy cr
  have hxn : (x : Int) < (n : Int) + 1 := by omega
  have hyn : (y : Int) < (n : Int) + 1 := by omega
  have hR := hRe
  clear hRe hl hnc hrc hrr hec hne hrl XW hn
  obtain ⟨W, hW⟩ : ∃ W, w.drew = W := ⟨_, rfl⟩
  rw [hW] at cr cx cy ce hrx hry
  go_enter Try.func15, Try.ntmps15
  go_upto_region 1 with fail
  refine wp_region_D (S := fun w' => w' = W) (D := [14, 15, 16, 17, 18]) (by kernel_rfl) hW (fun HS => ?_)
  rw [hW]
  replace hW := hidden hW
  clear HS
  have HS : W = W := rfl
  refine takeD 0 [2, 3, 8, 11, 14, 15, 16, 17, 18] (.slice (some ⟨rb, 0, none⟩) (n + 1) rcap) rfl rfl (by kernel_rfl) (by kernel_rfl) (by kernel_rfl) (by kernel_rfl) (by decide) (by decide) (fun _ _ _ h => h) (by rfl) (fun w' hw' => by rw [hw']; clear hw' w'; go_simp) HS ?_
  try simp only [List.setIfInBounds_toArray, List.set_cons_zero, List.set_cons_succ]
  refine takeD 1 [2, 3, 8, 11, 14, 15, 16, 17, 18] (.int .i64 (x : Int)) rfl rfl (by kernel_rfl) (by kernel_rfl) (by kernel_rfl) (by kernel_rfl) (by decide) (by decide) (fun _ _ _ h => h) (by rfl) (fun w' hw' => by go_simp) HS ?_
  try simp only [List.setIfInBounds_toArray, List.set_cons_zero, List.set_cons_succ]
  refine takeD 2 [3, 8, 11, 14, 15, 16, 17, 18] (.pointer (some ⟨rb, x, none⟩)) rfl rfl (by kernel_rfl) (by kernel_rfl) (by kernel_rfl) (by kernel_rfl) (by decide) (by decide) (fun _ _ _ h => h) (by rfl) (fun w' hw' => by go_simp) HS ?_
  try simp only [List.setIfInBounds_toArray, List.set_cons_zero, List.set_cons_succ]
  refine takeD 3 [8, 11, 14, 15, 16, 17, 18] (.int .i64 rx) rfl rfl (by kernel_rfl) (by kernel_rfl) (by kernel_rfl) (by kernel_rfl) (by decide) (by decide) (fun _ _ _ h => h) (by rfl) (fun w' hw' => by rw [hw']; clear hw' w'; go_simp) HS ?_
  try simp only [List.setIfInBounds_toArray, List.set_cons_zero, List.set_cons_succ]
  refine takeD 4 [6, 7, 8, 11, 14, 15, 16, 17, 18] (.slice (some ⟨rb, 0, none⟩) (n + 1) rcap) rfl rfl (by kernel_rfl) (by kernel_rfl) (by kernel_rfl) (by kernel_rfl) (by decide) (by decide) (fun _ _ _ h => h) (by rfl) (fun w' hw' => by rw [hw']; clear hw' w'; go_simp) HS ?_
  try simp only [List.setIfInBounds_toArray, List.set_cons_zero, List.set_cons_succ]
  refine takeD 5 [6, 7, 8, 11, 14, 15, 16, 17, 18] (.int .i64 (y : Int)) rfl rfl (by kernel_rfl) (by kernel_rfl) (by kernel_rfl) (by kernel_rfl) (by decide) (by decide) (fun _ _ _ h => h) (by rfl) (fun w' hw' => by go_simp) HS ?_
  try simp only [List.setIfInBounds_toArray, List.set_cons_zero, List.set_cons_succ]
  refine takeD 6 [7, 8, 11, 14, 15, 16, 17, 18] (.pointer (some ⟨rb, y, none⟩)) rfl rfl (by kernel_rfl) (by kernel_rfl) (by kernel_rfl) (by kernel_rfl) (by decide) (by decide) (fun _ _ _ h => h) (by rfl) (fun w' hw' => by go_simp) HS ?_
  try simp only [List.setIfInBounds_toArray, List.set_cons_zero, List.set_cons_succ]
  refine takeD 7 [8, 11, 14, 15, 16, 17, 18] (.int .i64 ry) rfl rfl (by kernel_rfl) (by kernel_rfl) (by kernel_rfl) (by kernel_rfl) (by decide) (by decide) (fun _ _ _ h => h) (by rfl) (fun w' hw' => by rw [hw']; clear hw' w'; go_simp) HS ?_
  try simp only [List.setIfInBounds_toArray, List.set_cons_zero, List.set_cons_succ]
  refine takeD 9 [11, 14, 15, 16, 17, 18] (.func (.func 14) #[] #[.pointer (some ⟨lc, 0, none⟩), .pointer (some ⟨nc, 0, none⟩), .pointer (some ⟨rc, 0, none⟩)]) rfl rfl (by kernel_rfl) (by kernel_rfl) (by kernel_rfl) (by kernel_rfl) (by decide) (by decide) (fun _ _ _ h => h) (by rfl) (fun w' hw' => by rw [hw']; clear hw' w'; go_simp) HS ?_
  try simp only [List.setIfInBounds_toArray, List.set_cons_zero, List.set_cons_succ]
  refine takeD 10 [11, 14, 15, 16, 17, 18] (.int .i64 (x : Int)) rfl rfl (by kernel_rfl) (by kernel_rfl) (by kernel_rfl) (by kernel_rfl) (by decide) (by decide) (fun _ _ _ h => h) (by rfl) (fun w' hw' => by go_simp) HS ?_
  try simp only [List.setIfInBounds_toArray, List.set_cons_zero, List.set_cons_succ]
  refine takeD 12 [14, 15, 16, 17, 18] (.func (.func 14) #[] #[.pointer (some ⟨lc, 0, none⟩), .pointer (some ⟨nc, 0, none⟩), .pointer (some ⟨rc, 0, none⟩)]) rfl rfl (by kernel_rfl) (by kernel_rfl) (by kernel_rfl) (by kernel_rfl) (by decide) (by decide) (fun _ _ _ h => h) (by rfl) (fun w' hw' => by rw [hw']; clear hw' w'; go_simp) HS ?_
  try simp only [List.setIfInBounds_toArray, List.set_cons_zero, List.set_cons_succ]
  refine takeD 13 [14, 15, 16, 17, 18] (.int .i64 (y : Int)) rfl rfl (by kernel_rfl) (by kernel_rfl) (by kernel_rfl) (by kernel_rfl) (by decide) (by decide) (fun _ _ _ h => h) (by rfl) (fun w' hw' => by go_simp) HS ?_
  try simp only [List.setIfInBounds_toArray, List.set_cons_zero, List.set_cons_succ]
  refine callVD 8 17 #[.int .i64 rx, .int .i64 ry] rfl rfl (by kernel_rfl) (by rfl) (by go_simp) (cmpi_any rx ry _) ?_
  rintro e w' ⟨rfl, hw'⟩
  rw [hw']
  clear hw' w'
  refine Or.inl ⟨_, rfl, fun _ => HS, ?_⟩
  try simp only [Act.put, List.setIfInBounds_toArray, List.set_cons_zero, List.set_cons_succ]
  refine callVD 11 14 #[.int .i64 (x : Int), .pointer (some ⟨lc, 0, none⟩), .pointer (some ⟨nc, 0, none⟩), .pointer (some ⟨rc, 0, none⟩)] rfl rfl (by kernel_rfl) (by rfl) (by go_simp) (hrx.out) ?_
  rintro e w' ⟨rfl, hw'⟩
  rw [hw']
  clear hw' w'
  refine Or.inl ⟨_, rfl, fun _ => HS, ?_⟩
  try simp only [Act.put, List.setIfInBounds_toArray, List.set_cons_zero, List.set_cons_succ]
  refine callVD 14 14 #[.int .i64 (y : Int), .pointer (some ⟨lc, 0, none⟩), .pointer (some ⟨nc, 0, none⟩), .pointer (some ⟨rc, 0, none⟩)] rfl rfl (by kernel_rfl) (by rfl) (by go_simp) (hry.out) ?_
  rintro e w' ⟨rfl, hw'⟩
  rw [hw']
  clear hw' w'
  refine Or.inl ⟨_, rfl, fun h => absurd (by decide) h, ?_⟩
  try simp only [Act.put, List.setIfInBounds_toArray, List.set_cons_zero, List.set_cons_succ]
  refine callVD 15 17 #[.int .i64 sx', .int .i64 sy'] rfl rfl (by kernel_rfl) (by rfl) (by go_simp) (cmpi_any sx' sy' _) ?_
  rintro e w' ⟨rfl, hw'⟩
  rw [hw']
  clear hw' w'
  refine Or.inl ⟨_, rfl, fun h => absurd (by decide) h, ?_⟩
  try simp only [Act.put, List.setIfInBounds_toArray, List.set_cons_zero, List.set_cons_succ]
  refine valueD 16 (.slice (some ⟨W.heap.size, 0, none⟩) 2 2) rfl rfl (by kernel_rfl) (by rfl) (w' := W.alloc (.cells #[.int .i64 (Suf.cmpI rx ry), .int .i64 (Suf.cmpI sx' sy')] 3)) (by go_simp) (fun h => absurd (by decide) h) ?_
  try simp only [List.setIfInBounds_toArray, List.set_cons_zero, List.set_cons_succ]
  have BN := Blk.new W [.int .i64 (Suf.cmpI rx ry), .int .i64 (Suf.cmpI sx' sy')] 3
  have hor := or2_any (Suf.cmpI rx ry) (Suf.cmpI sx' sy') W.heap.size _ (BN.cell 0 _ rfl) (BN.cell 1 _ rfl)
  rw [hR.out] at hor
  refine callVD 17 16 #[.slice (some ⟨W.heap.size, 0, none⟩) 2 2] rfl rfl (by kernel_rfl) (by rfl) (by go_simp) (hor) ?_
  rintro e w' ⟨rfl, hw'⟩
  rw [hw']
  clear hw' w'
  refine Or.inl ⟨_, rfl, fun h => absurd (by decide) h, ?_⟩
  try simp only [Act.put, List.setIfInBounds_toArray, List.set_cons_zero, List.set_cons_succ]
  refine valueD 18 (.int .i64 R) rfl rfl (by kernel_rfl) (by rfl) (w' := W.alloc (.cells #[.int .i64 (Suf.cmpI rx ry), .int .i64 (Suf.cmpI sx' sy')] 3)) (by go_simp) (fun h => absurd (by decide) h) ?_
  try simp only [List.setIfInBounds_toArray, List.set_cons_zero, List.set_cons_succ]
  refine wpAnyD_done (by kernel_rfl) ?_ _
  show _
  go_wp2_with fail
  go_ret
  refine ⟨rfl, 1, #[.cells #[.int .i64 (Suf.cmpI rx ry), .int .i64 (Suf.cmpI sx' sy')] 3 (0, 0)], ?_⟩
  rw [← hW.out]
  rfl
end Go.Proofs.Ytfebgcbkadmgiaa
