/- Names. -/
import Derived.Test.YthjnchjfmbblfaaGreatDoorUzp
namespace Go.Proofs.YthjnchjfmbblfaaGreatDoor
open Go.RowKit Go.ChangeMaps Go.MapKept
set_option linter.unusedVariables false
set_option linter.unusedSimpArgs false
attribute [local go_sem ↓] Go.wp_at_zero Go.wp_at_succ

/-- What Names says: so many names. -/
def NamR (L : List UInt8) (w : World) (x : Ending) (w' : World) : Prop := match Src.readF L with
  | .ok s => ∃ a c, x = .returned (.tuple #[.slice a (s.arr.length + s.loc.length) c, .int .i64 0, .int .i64 0]) ∧ Ext w w'
  | .error c => x = .returned (.tuple #[.slice none 0 0, .int .i64 (c.1 : Int), .int .i64 c.2]) ∧ Ext w w'
set_option maxHeartbeats 8000000 in
set_option maxRecDepth 100000 in
theorem names_any (src : ByteArray) (hs0 : src.size ≤ 1000000) (w : World) (hErr : ErrR w) :
    Calls Tryz.prog 8 #[.string src] w (NamR src.data.toList w) := by
  have hrd := read_any src hs0 w hErr
  obtain ⟨L, hL⟩ : ∃ L, src.data.toList = L := ⟨_, rfl⟩
  rw [hL] at hrd ⊢
  replace hL := hidden hL
  clear hErr hs0
  unfold NamR
  cases hR : Src.readF L with
  | error c =>
    rw [hR] at hrd
    unfold ReadR at hrd
    simp only at hrd ⊢
    have hne := readF_err hR
    have hne' : (c.2 != 0) = true := by simpa using hne
    replace hrd := hidden hrd
    obtain ⟨c1, c2⟩ := c
    simp only at hne' hrd ⊢
    clear hR hne
    go_enter Tryz.func8, Tryz.ntmps8
    go_wp2_with fail
    refine hrd.out.mono ?_
    rintro x w2 ⟨rfl, X2⟩
    go_wp2_with fail
    refine bodyPost_ret (results_tmp3 rfl _ _ _) rfl ?_
    exact ⟨rfl, X2⟩
  | ok s =>
    rw [hR] at hrd
    unfold ReadR at hrd
    simp only at hrd ⊢
    have hI := Src.readF_inv hR
    have hcl : Hid (([s.arr.map sv, s.loc.map sv] : List (List Value)).flatten.length ≤ 900000) := hidden (by
      simp only [List.flatten_cons, List.flatten_nil, List.length_append, List.length_map, List.length_nil]
      have := hI.na; have := hI.a8; have := hI.l16
      omega)
    have hone : Hid (∀ C ∈ ([s.arr.map sv, s.loc.map sv] : List (List Value)), ∀ u ∈ C, u.oneCell' = true) := hidden (by
      intro C hC u hu
      simp only [List.mem_cons, List.not_mem_nil, or_false] at hC
      rcases hC with rfl | rfl <;> (obtain ⟨y, -, rfl⟩ := List.mem_map.1 hu; rfl))
    obtain ⟨Na, hNa⟩ : ∃ n, s.arr.length + s.loc.length = n := ⟨_, rfl⟩
    have hfl : Hid (([s.arr.map sv, s.loc.map sv] : List (List Value)).flatten.length = Na) := hidden (by rw [← hNa]; simp)
    rw [hNa]
    replace hrd := hidden hrd
    clear hR hI hNa
    go_enter Tryz.func8, Tryz.ntmps8
    go_wp2_with fail
    refine hrd.out.mono ?_
    rintro x w2 ⟨r, m, B, rfl, hM, hBB, X2⟩
    obtain ⟨vw, vA, vC, va, vl, hV⟩ := hM
    obtain ⟨aa, ca, hva, -⟩ := own_shape hV.oa
    obtain ⟨al, cl, hvl, -⟩ := own_shape hV.ol
    subst hva
    subst hvl
    have e5 := hV.blk.cell 5 _ rfl
    have e6 := hV.blk.cell 6 _ rfl
    obtain ⟨na, hna⟩ : ∃ n, s.arr.length = n := ⟨_, rfl⟩
    obtain ⟨nl, hnl⟩ : ∃ n, s.loc.length = n := ⟨_, rfl⟩
    have hoa := hV.oa
    have hol := hV.ol
    rw [hna] at e5 hoa
    rw [hnl] at e6 hol
    have hrc : Hid (∀ W, Ext w2 W → RdC W [.slice aa na ca, .slice al nl cl] [s.arr.map sv, s.loc.map sv]) := hidden (fun W hW => ⟨rfl, fun i v C hv hC => by
      match i with
      | 0 =>
        simp at hv hC
        subst hv; subst hC
        rw [List.length_map, hna]
        exact Rd.of_own (own_ext hoa hW)
      | 1 =>
        simp at hv hC
        subst hv; subst hC
        rw [List.length_map, hnl]
        exact Rd.of_own (own_ext hol hW)
      | k + 2 => simp at hv⟩)
    replace hna := hidden hna
    replace hnl := hidden hnl
    have hX2 := hidden X2
    clear hV hoa hol X2
    go_wp2_with fail
    rename_i KK hKK
    refine wp_region_D (S := fun w' : World => w'.cell? ⟨r, 5, none⟩ = some (.slice aa na ca) ∧ w'.cell? ⟨r, 6, none⟩ = some (.slice al nl cl)) (D := []) (by kernel_rfl) ⟨e5, e6⟩ (fun HS => ?_)
    refine takeD 0 [] (.pointer (some ⟨r, 0, none⟩)) rfl rfl (by kernel_rfl) (by kernel_rfl) (by kernel_rfl) (by kernel_rfl) (by decide) (by decide) (fun _ _ _ h => h) (by rfl) (fun w' hw' => by go_simp) HS ?_
    try simp only [List.setIfInBounds_toArray, List.set_cons_zero, List.set_cons_succ]
    refine takeD 1 [] (.pointer (some ⟨r, 0, none⟩)) rfl rfl (by kernel_rfl) (by kernel_rfl) (by kernel_rfl) (by kernel_rfl) (by decide) (by decide) (fun _ _ _ h => h) (by rfl) (fun w' hw' => by go_simp) HS ?_
    try simp only [List.setIfInBounds_toArray, List.set_cons_zero, List.set_cons_succ]
    refine takeD 2 [] (.pointer (some ⟨r, 5, none⟩)) rfl rfl (by kernel_rfl) (by kernel_rfl) (by kernel_rfl) (by kernel_rfl) (by decide) (by decide) (fun _ _ _ h => h) (by rfl) (fun w' hw' => by go_simp) HS ?_
    try simp only [List.setIfInBounds_toArray, List.set_cons_zero, List.set_cons_succ]
    refine takeD 3 [] (.slice aa na ca) rfl rfl (by kernel_rfl) (by kernel_rfl) (by kernel_rfl) (by kernel_rfl) (by decide) (by decide) (fun _ _ _ h => h) (by rfl) (fun w' hw' => by obtain ⟨s1, s2⟩ := hw'; go_simp) HS ?_
    try simp only [List.setIfInBounds_toArray, List.set_cons_zero, List.set_cons_succ]
    refine takeD 4 [] (.pointer (some ⟨r, 0, none⟩)) rfl rfl (by kernel_rfl) (by kernel_rfl) (by kernel_rfl) (by kernel_rfl) (by decide) (by decide) (fun _ _ _ h => h) (by rfl) (fun w' hw' => by go_simp) HS ?_
    try simp only [List.setIfInBounds_toArray, List.set_cons_zero, List.set_cons_succ]
    refine takeD 5 [] (.pointer (some ⟨r, 0, none⟩)) rfl rfl (by kernel_rfl) (by kernel_rfl) (by kernel_rfl) (by kernel_rfl) (by decide) (by decide) (fun _ _ _ h => h) (by rfl) (fun w' hw' => by go_simp) HS ?_
    try simp only [List.setIfInBounds_toArray, List.set_cons_zero, List.set_cons_succ]
    refine takeD 6 [] (.pointer (some ⟨r, 6, none⟩)) rfl rfl (by kernel_rfl) (by kernel_rfl) (by kernel_rfl) (by kernel_rfl) (by decide) (by decide) (fun _ _ _ h => h) (by rfl) (fun w' hw' => by go_simp) HS ?_
    try simp only [List.setIfInBounds_toArray, List.set_cons_zero, List.set_cons_succ]
    refine takeD 7 [] (.slice al nl cl) rfl rfl (by kernel_rfl) (by kernel_rfl) (by kernel_rfl) (by kernel_rfl) (by decide) (by decide) (fun _ _ _ h => h) (by rfl) (fun w' hw' => by obtain ⟨s1, s2⟩ := hw'; go_simp) HS ?_
    try simp only [List.setIfInBounds_toArray, List.set_cons_zero, List.set_cons_succ]
    have XA := (Ext.refl w2.drew).alloc (.cells #[.slice aa na ca, .slice al nl cl] 31)
    have HS2 : (fun w' : World => w'.cell? ⟨r, 5, none⟩ = some (.slice aa na ca) ∧ w'.cell? ⟨r, 6, none⟩ = some (.slice al nl cl)) (w2.drew.alloc (.cells #[.slice aa na ca, .slice al nl cl] 31)) := ⟨XA.cell HS.1, XA.cell HS.2⟩
    refine valueD 8 (.slice (some ⟨w2.drew.heap.size, 0, none⟩) 2 2) rfl rfl (by kernel_rfl) (by rfl) (w' := w2.drew.alloc (.cells #[.slice aa na ca, .slice al nl cl] 31)) (by go_simp) (fun _ => HS2) ?_
    try simp only [List.setIfInBounds_toArray, List.set_cons_zero, List.set_cons_succ]
    have hRb : Rd (w2.drew.alloc (.cells #[.slice aa na ca, .slice al nl cl] 31)) 1 (.slice (some ⟨w2.drew.heap.size, 0, none⟩) 2 2) 2 [.slice aa na ca, .slice al nl cl] := rd_of_blkS (Blk.new w2.drew [.slice aa na ca, .slice al nl cl] 31) rfl (by decide)
    have hRC : RdC (w2.drew.alloc (.cells #[.slice aa na ca, .slice al nl cl] 31)) [.slice aa na ca, .slice al nl cl] [s.arr.map sv, s.loc.map sv] := hrc.out _ ((Ext.refl w2).drew.trans XA)
    refine callVD 9 18 #[.slice (some ⟨w2.drew.heap.size, 0, none⟩) 2 2] rfl rfl (by kernel_rfl) (by rfl) (by go_simp) (concatT_any _ [.slice aa na ca, .slice al nl cl] [s.arr.map sv, s.loc.map sv] hcl.out (by simp) _ hRb hRC hone.out) ?_
    rintro e w5 ⟨v5, rfl, hO5, X5⟩
    have HS5 : (fun w' : World => w'.cell? ⟨r, 5, none⟩ = some (.slice aa na ca) ∧ w'.cell? ⟨r, 6, none⟩ = some (.slice al nl cl)) w5 := ⟨X5.cell HS2.1, X5.cell HS2.2⟩
    refine Or.inl ⟨_, rfl, fun _ => HS5, ?_⟩
    try simp only [List.setIfInBounds_toArray, List.set_cons_zero, List.set_cons_succ]
    refine takeD 10 [] (v5) rfl rfl (by kernel_rfl) (by kernel_rfl) (by kernel_rfl) (by kernel_rfl) (by decide) (by decide) (fun _ _ _ h => h) (by rfl) (fun w' hw' => by go_simp) HS5 ?_
    try simp only [List.setIfInBounds_toArray, List.set_cons_zero, List.set_cons_succ]
    refine takeD 11 [] (.int .i64 0) rfl rfl (by kernel_rfl) (by kernel_rfl) (by kernel_rfl) (by kernel_rfl) (by decide) (by decide) (fun _ _ _ h => h) (by rfl) (fun w' hw' => by go_simp) HS5 ?_
    try simp only [List.setIfInBounds_toArray, List.set_cons_zero, List.set_cons_succ]
    refine takeD 12 [] (.int .i64 0) rfl rfl (by kernel_rfl) (by kernel_rfl) (by kernel_rfl) (by kernel_rfl) (by decide) (by decide) (fun _ _ _ h => h) (by rfl) (fun w' hw' => by go_simp) HS5 ?_
    try simp only [List.setIfInBounds_toArray, List.set_cons_zero, List.set_cons_succ]
    refine wpAnyD_done (by kernel_rfl) ?_ _
    show KK _ _
    refine hKK _ _ ?_
    have hX6 : Ext w w5 := hX2.out.trans (((Ext.refl w2).drew.trans XA).trans X5)
    rw [hfl.out] at hO5
    obtain ⟨a5, c5, rfl, -⟩ := own_shape hO5
    clear HS HS2 HS5 hRb hRC XA X5 hO5 e5 e6 hKK KK
    go_wp2_with fail
    refine bodyPost_ret (results_tmp3 rfl _ _ _) rfl ?_
    exact ⟨_, _, rfl, hX6⟩
end Go.Proofs.YthjnchjfmbblfaaGreatDoor
