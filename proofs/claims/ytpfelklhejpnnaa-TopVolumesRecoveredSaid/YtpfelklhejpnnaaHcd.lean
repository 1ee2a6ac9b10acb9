/- The law's caseRecovered. -/
import Derived.Test.YtpfelklhejpnnaaHpj
import Derived.Test.YtpfelklhejpnnaaHca
import Derived.Lib.SlBytesConst
namespace Go.Proofs.Ytpfelklhejpnnaa
open Go.RowKit
set_option linter.unusedVariables false
set_option linter.unusedSimpArgs false
attribute [local go_sem ↓] Go.wp_at_zero Go.wp_at_succ

def b6 : List Int := [97, 98, 99, 100, 101, 102]
theorem b6_bytes : Bytes b6 := by
  intro x hx
  simp [b6] at hx
  rcases hx with rfl | rfl | rfl | rfl | rfl | rfl <;> omega
def X3 : List (List Int) := [(splitF b6 3 1).getD 0 [], (splitF b6 3 1).getD 3 [], (splitF b6 3 1).getD 2 []]
theorem X3_mem : ∀ x ∈ X3, x ∈ splitF b6 3 1 := by
  intro x hx
  simp [X3] at hx
  rcases hx with rfl | rfl | rfl <;> exact getD_mem (by rw [splitF_len]; omega) []
theorem X3_inv : Inv b6 3 1 X3 (colF X3) := inv_col (by omega) (by omega) (by decide) X3 (fun x hx => Or.inr (X3_mem x hx))
theorem split_bytes {b : List Int} {d r : Nat} (hb : Bytes b) (hn : b.length ≤ 1000) (hdr : d + r ≤ 64) : ∀ l ∈ splitF b d r, Bytes l := by
  intro l hl
  obtain ⟨k, hk, rfl⟩ := List.mem_iff_getElem.1 hl
  rw [splitF_len] at hk
  have e := splitF_at b d r k hk
  rw [List.getD_eq_getElem?_getD, List.getElem?_eq_getElem (by rw [splitF_len]; exact hk)] at e
  simp only [Option.getD_some] at e
  rw [e]
  have hs := sumI_lt b
  exact volF_bytes (fun n hn' => by
    simp at hn'
    rcases hn' with rfl | rfl | rfl | rfl | rfl <;> omega) (getD_bytes (fullF_bytes hb d r) k)
theorem split_lens {b : List Int} {d r : Nat} (h1 : 1 ≤ d) (hn : b.length ≤ 1000) : ∀ l ∈ splitF b d r, l.length ≤ 1100 := by
  intro l hl
  obtain ⟨k, hk, rfl⟩ := List.mem_iff_getElem.1 hl
  rw [splitF_len] at hk
  have e := splitF_at b d r k hk
  rw [List.getD_eq_getElem?_getD, List.getElem?_eq_getElem (by rw [splitF_len]; exact hk)] at e
  simp only [Option.getD_some] at e
  rw [e, volF_len]
  have h2 := hdB_len [(sumI b : Int), (k : Int), (d : Int), (r : Int), (b.length : Int)]
  have h3 := (fullF_wide b d r h1).at (show k < (fullF b d r).length by rw [fullF_len]; exact hk)
  have h4 := sizeF_le b.length d h1 1000 (by omega) hn
  simp only [List.length_cons, List.length_nil] at h2
  omega
theorem X3_not1 : (splitF b6 3 1).getD 1 [] ∉ X3 := by
  intro hc
  simp only [X3, List.mem_cons, List.not_mem_nil, or_false] at hc
  have inj := fun k k' hk hk' h => split_inj (b := b6) (d := 3) (r := 1) (k := k) (k' := k') (by omega) (by omega) (by decide) hk hk' h
  rcases hc with h | h | h
  · have := inj 1 0 (by omega) (by omega) h; omega
  · have := inj 1 3 (by omega) (by omega) h; omega
  · have := inj 1 2 (by omega) (by omega) h; omega
theorem X3_notP : notP (splitF b6 3 1) X3 = 1 := by
  have hl : (splitF b6 3 1).length = 4 := splitF_len _ _ _
  have h0 : (splitF b6 3 1).getD 0 [] ∈ X3 := by simp [X3]
  have h1 := X3_not1
  have h2 : (splitF b6 3 1).getD 2 [] ∈ X3 := by simp [X3]
  have h3 : (splitF b6 3 1).getD 3 [] ∈ X3 := by simp [X3]
  obtain ⟨L, hL⟩ : ∃ L, splitF b6 3 1 = L := ⟨_, rfl⟩
  rw [hL] at hl h0 h1 h2 h3 ⊢
  have a0 : notP (L.take 1) X3 = notP (L.take 0) X3 + _ := notP_succ L X3 0 (by omega)
  have a1 : notP (L.take 2) X3 = notP (L.take 1) X3 + _ := notP_succ L X3 1 (by omega)
  have a2 : notP (L.take 3) X3 = notP (L.take 2) X3 + _ := notP_succ L X3 2 (by omega)
  have a3 : notP (L.take 4) X3 = notP (L.take 3) X3 + _ := notP_succ L X3 3 (by omega)
  rw [if_pos h0] at a0
  rw [if_neg h1] at a1
  rw [if_pos h2] at a2
  rw [if_pos h3] at a3
  rw [List.take_of_length_le (by omega)] at a3
  have z : notP (L.take 0) X3 = 0 := by simp [notP]
  omega
theorem X3_MI : MI (allF (colF X3).2 (3 + 1)) (3 + 1) = [1] := by
  have hl := fun k hk => inv_look X3_inv (k := k) hk
  have hln : ∀ k, k < 4 → (splitF b6 3 1).getD k [] ∈ X3 → ¬ ln (allF (colF X3).2 (3 + 1)) k = 0 := fun k hk hm => by
    unfold ln
    rw [hl k (by omega), if_pos hm, (fullF_wide b6 3 1 (by omega)).at (by rw [fullF_len]; omega)]
    have := sizeF_pos b6.length 3
    omega
  have h0 := hln 0 (by omega) (by simp [X3])
  have h2 := hln 2 (by omega) (by simp [X3])
  have h3 := hln 3 (by omega) (by simp [X3])
  have h1 : ln (allF (colF X3).2 (3 + 1)) 1 = 0 := by
    unfold ln
    rw [hl 1 (by omega), if_neg X3_not1]
    rfl
  rw [MI_no h3, MI_no h2, MI_yes h1, MI_no h0]
  rfl
set_option maxRecDepth 100000 in
set_option maxHeartbeats 2000000 in
theorem crec_any (w : World) : Calls Try.prog 4 #[] w fun e w' => e = .returned (.bool true) ∧ Ext w w' := by
  have hX0 : Ext w (w.alloc (.cells #[.int .u8 97, .int .u8 98, .int .u8 99, .int .u8 100, .int .u8 101, .int .u8 102] 5 (6, 7))) := (Ext.refl w).alloc _
  have hR0 : Rd8 (w.alloc (.cells #[.int .u8 97, .int .u8 98, .int .u8 99, .int .u8 100, .int .u8 101, .int .u8 102] 5 (6, 7))) (.slice (some ⟨w.heap.size, 0, none⟩) 6 6) b6 := by
    refine ⟨by rfl, _, _, rfl, Nat.le_refl _, by unfold maxLen; decide, (fun e => by cases e), fun _ => ⟨w.heap.size, 0, rfl, by simp, fun j hj => ?_⟩⟩
    rw [Nat.zero_add, World.cell?_alloc_mark]
    show ((bs b6).toArray)[j]? = some ((bs b6).getD j undef)
    rw [List.getElem?_toArray]
    simp [List.getD, List.getElem?_eq_getElem hj]
  have hcv22 : (convert 22 22 (.slice (some ⟨w.heap.size, 0, none⟩) 6 6)).run Try.prog (w.alloc (.cells #[.int .u8 97, .int .u8 98, .int .u8 99, .int .u8 100, .int .u8 101, .int .u8 102] 5)) = .ok (.slice (some ⟨w.heap.size, 0, none⟩) 6 6) (w.alloc (.cells #[.int .u8 97, .int .u8 98, .int .u8 99, .int .u8 100, .int .u8 101, .int .u8 102] 5 (6, 7))) := Lib.run_convert_bytes_const w 22 5 #[.int .u8 97, .int .u8 98, .int .u8 99, .int .u8 100, .int .u8 101, .int .u8 102] 6 6 Try.underlying22 Try.underlying5
  have hsp := split_any 3 1 (by omega) (by omega) (.slice (some ⟨w.heap.size, 0, none⟩) 6 6) b6 b6_bytes (by decide) _ hR0
  have hsl : (splitF b6 3 1).length = 4 := splitF_len _ _ _
  have hLo : LeftOK b6 3 1 X3 := leftOK_of (by omega) (by omega) (by omega) b6_bytes X3_inv (by simp [X3]) (fun l hl => split_bytes b6_bytes (by decide) (by omega) l (X3_mem l hl)) (fun l hl => by have := split_lens (b := b6) (d := 3) (r := 1) (by omega) (by decide) l (X3_mem l hl); omega)
  have hj := fun v W (h : RL W v X3) => vjoin_any b6 3 1 (by omega) (by omega) b6_bytes (by decide) v X3 hLo W h
  have hm := fun v W (h : RL W v X3) => vmissing_any b6 3 1 (by omega) (by omega) b6_bytes (by decide) v X3 hLo W h
  have hstr : strOfNums b6 = ⟨#[97, 98, 99, 100, 101, 102]⟩ := by rfl
  replace hj := hidden hj
  replace hm := hidden hm
  replace hsp := hidden hsp
  replace hX0 := hidden hX0
  replace hstr := hidden hstr
  go_enter Try.func4, Try.ntmps4
  go_wp2_with fail
  refine hsp.out.mono ?_
  rintro e w1 ⟨v1, rfl, hO1, hX1⟩
  obtain ⟨vs1, hv1⟩ := hO1.vals
  rw [hsl] at hv1
  obtain ⟨ob, oc, rfl, -⟩ := own_some hv1 (by omega)
  have hrl := hO1.rl
  have hrow := fun k (hk : k < 4) => hrl.row (n := 4) k hk
  obtain ⟨b0, o0, a0, c0, e0, cell0, r0⟩ := hrow 0 (by omega)
  obtain ⟨b2, o2, a2, c2, e2, cell2, r2⟩ := hrow 2 (by omega)
  obtain ⟨b3, o3, a3, c3, e3, cell3, r3⟩ := hrow 3 (by omega)
  simp only [Option.some.injEq, Addr.mk.injEq, and_true] at e0 e2 e3
  obtain ⟨rfl, rfl⟩ := e0
  obtain ⟨rfl, rfl⟩ := e2
  obtain ⟨rfl, rfl⟩ := e3
  rw [Nat.zero_add] at cell0 cell2 cell3
  obtain ⟨n0, hn0⟩ : ∃ y, ((splitF b6 3 1).getD 0 []).length = y := ⟨_, rfl⟩
  obtain ⟨n2, hn2⟩ : ∃ y, ((splitF b6 3 1).getD 2 []).length = y := ⟨_, rfl⟩
  obtain ⟨n3, hn3⟩ : ∃ y, ((splitF b6 3 1).getD 3 []).length = y := ⟨_, rfl⟩
  have hr0 : Rd8 w1 (.slice a0 n0 c0) ((splitF b6 3 1).getD 0 []) := by rw [← hn0]; exact r0
  have hr2 : Rd8 w1 (.slice a2 n2 c2) ((splitF b6 3 1).getD 2 []) := by rw [← hn2]; exact r2
  have hr3 : Rd8 w1 (.slice a3 n3 c3) ((splitF b6 3 1).getD 3 []) := by rw [← hn3]; exact r3
  rw [hn0] at cell0 r0
  rw [hn2] at cell2 r2
  rw [hn3] at cell3 r3
  have hX01 : Ext w w1 := hX0.out.trans hX1
  have hRC : ∀ W, Ext w1 W → RdC W [.slice a0 n0 c0, .slice a3 n3 c3, .slice a2 n2 c2] (X3.map bs) := fun W hW => ⟨rfl, fun i u C hu hC => by
    match i with
    | 0 => simp only [List.getElem?_cons_zero, List.getElem?_cons_succ, X3, List.map_cons, List.map_nil, Option.some.injEq] at hu hC; subst hu hC; rw [bs_len]; exact hr0.ext hW
    | 1 => simp only [List.getElem?_cons_zero, List.getElem?_cons_succ, X3, List.map_cons, List.map_nil, Option.some.injEq] at hu hC; subst hu hC; rw [bs_len]; exact hr3.ext hW
    | 2 => simp only [List.getElem?_cons_zero, List.getElem?_cons_succ, X3, List.map_cons, List.map_nil, Option.some.injEq] at hu hC; subst hu hC; rw [bs_len]; exact hr2.ext hW
    | i + 3 => simp at hu⟩
  have hRX : ∀ W, Ext w1 W → RL (W.alloc (.cells #[.slice a0 n0 c0, .slice a3 n3 c3, .slice a2 n2 c2] 22)) (.slice (some ⟨W.heap.size, 0, none⟩) 3 3) X3 := fun W hW =>
    ⟨_, rd_of_blkS (Blk.new W [.slice a0 n0 c0, .slice a3 n3 c3, .slice a2 n2 c2] 22) rfl (by omega), hRC _ (hW.alloc _)⟩
  replace hRX := hidden hRX
  replace hX01 := hidden hX01
  clear hRC hrow hrl hO1 hv1 hX1 r0 r2 r3 hr0 hr2 hr3 hn0 hn2 hn3 hsp
  go_upto_region 4 with fail
  refine wp_region_D (S := fun w' : World => w'.cell? ⟨ob, 0, none⟩ = some (.slice a0 n0 c0) ∧ w'.cell? ⟨ob, 2, none⟩ = some (.slice a2 n2 c2) ∧ w'.cell? ⟨ob, 3, none⟩ = some (.slice a3 n3 c3)) (D := []) (by kernel_rfl) ⟨cell0, cell2, cell3⟩ (fun HS => ?_)
  refine takeD 0 [] (.slice (some ⟨ob, 0, none⟩) 4 oc) rfl rfl (by kernel_rfl) (by kernel_rfl) (by kernel_rfl) (by kernel_rfl) (by decide) (by decide) (fun _ _ _ h => h) (by rfl) (fun w' hw' => by go_simp) HS ?_
  try simp only [List.setIfInBounds_toArray, List.set_cons_zero, List.set_cons_succ]
  refine takeD 1 [] (.pointer (some ⟨ob, 0, none⟩)) rfl rfl (by kernel_rfl) (by kernel_rfl) (by kernel_rfl) (by kernel_rfl) (by decide) (by decide) (fun _ _ _ h => h) (by rfl) (fun w' hw' => by go_simp) HS ?_
  try simp only [List.setIfInBounds_toArray, List.set_cons_zero, List.set_cons_succ]
  refine takeD 2 [] (.slice a0 n0 c0) rfl rfl (by kernel_rfl) (by kernel_rfl) (by kernel_rfl) (by kernel_rfl) (by decide) (by decide) (fun _ _ _ h => h) (by rfl) (fun w' hw' => by obtain ⟨p1, p2, p3⟩ := hw'; go_simp) HS ?_
  try simp only [List.setIfInBounds_toArray, List.set_cons_zero, List.set_cons_succ]
  refine takeD 3 [] (.slice (some ⟨ob, 0, none⟩) 4 oc) rfl rfl (by kernel_rfl) (by kernel_rfl) (by kernel_rfl) (by kernel_rfl) (by decide) (by decide) (fun _ _ _ h => h) (by rfl) (fun w' hw' => by go_simp) HS ?_
  try simp only [List.setIfInBounds_toArray, List.set_cons_zero, List.set_cons_succ]
  refine takeD 4 [] (.pointer (some ⟨ob, 3, none⟩)) rfl rfl (by kernel_rfl) (by kernel_rfl) (by kernel_rfl) (by kernel_rfl) (by decide) (by decide) (fun _ _ _ h => h) (by rfl) (fun w' hw' => by go_simp) HS ?_
  try simp only [List.setIfInBounds_toArray, List.set_cons_zero, List.set_cons_succ]
  refine takeD 5 [] (.slice a3 n3 c3) rfl rfl (by kernel_rfl) (by kernel_rfl) (by kernel_rfl) (by kernel_rfl) (by decide) (by decide) (fun _ _ _ h => h) (by rfl) (fun w' hw' => by obtain ⟨p1, p2, p3⟩ := hw'; go_simp) HS ?_
  try simp only [List.setIfInBounds_toArray, List.set_cons_zero, List.set_cons_succ]
  refine takeD 6 [] (.slice (some ⟨ob, 0, none⟩) 4 oc) rfl rfl (by kernel_rfl) (by kernel_rfl) (by kernel_rfl) (by kernel_rfl) (by decide) (by decide) (fun _ _ _ h => h) (by rfl) (fun w' hw' => by go_simp) HS ?_
  try simp only [List.setIfInBounds_toArray, List.set_cons_zero, List.set_cons_succ]
  refine takeD 7 [] (.pointer (some ⟨ob, 2, none⟩)) rfl rfl (by kernel_rfl) (by kernel_rfl) (by kernel_rfl) (by kernel_rfl) (by decide) (by decide) (fun _ _ _ h => h) (by rfl) (fun w' hw' => by go_simp) HS ?_
  try simp only [List.setIfInBounds_toArray, List.set_cons_zero, List.set_cons_succ]
  refine takeD 8 [] (.slice a2 n2 c2) rfl rfl (by kernel_rfl) (by kernel_rfl) (by kernel_rfl) (by kernel_rfl) (by decide) (by decide) (fun _ _ _ h => h) (by rfl) (fun w' hw' => by obtain ⟨p1, p2, p3⟩ := hw'; go_simp) HS ?_
  try simp only [List.setIfInBounds_toArray, List.set_cons_zero, List.set_cons_succ]
  obtain ⟨wd, hwd⟩ : ∃ X, w1.drew = X := ⟨_, rfl⟩
  rw [hwd] at HS ⊢
  have hEd : Ext w1 wd := by rw [← hwd]; exact (Ext.refl _).drew
  clear hwd
  have HS1 : (fun w' : World => w'.cell? ⟨ob, 0, none⟩ = some (.slice a0 n0 c0) ∧ w'.cell? ⟨ob, 2, none⟩ = some (.slice a2 n2 c2) ∧ w'.cell? ⟨ob, 3, none⟩ = some (.slice a3 n3 c3)) (wd.alloc (.cells #[.slice a0 n0 c0, .slice a3 n3 c3, .slice a2 n2 c2] 22)) := ⟨((Ext.refl wd).alloc _).cell HS.1, ((Ext.refl wd).alloc _).cell HS.2.1, ((Ext.refl wd).alloc _).cell HS.2.2⟩
  refine valueD 9 (.slice (some ⟨wd.heap.size, 0, none⟩) 3 3) rfl rfl (by kernel_rfl) (by rfl) (w' := wd.alloc (.cells #[.slice a0 n0 c0, .slice a3 n3 c3, .slice a2 n2 c2] 22)) (by go_simp) (fun _ => HS1) ?_
  try simp only [List.setIfInBounds_toArray, List.set_cons_zero, List.set_cons_succ]
  have hRX1 := hRX.out wd ((Ext.refl w1).trans hEd)
  have hEa : Ext w1 (wd.alloc (.cells #[.slice a0 n0 c0, .slice a3 n3 c3, .slice a2 n2 c2] 22)) := hEd.alloc _
  refine callVD 10 8 #[.slice (some ⟨wd.heap.size, 0, none⟩) 3 3] rfl rfl (by kernel_rfl) (by rfl) (by go_simp) (hj.out _ _ hRX1) ?_
  intro e w2 hvj
  rcases vj_of (by omega) X3_inv hvj with ⟨y, -, -⟩ | ⟨y, -, -, -⟩ | ⟨-, v2, rfl, hR2, hX2⟩
  · rw [X3_notP] at y; omega
  · rw [X3_notP] at y; omega
  · have HS2 : (fun w' : World => w'.cell? ⟨ob, 0, none⟩ = some (.slice a0 n0 c0) ∧ w'.cell? ⟨ob, 2, none⟩ = some (.slice a2 n2 c2) ∧ w'.cell? ⟨ob, 3, none⟩ = some (.slice a3 n3 c3)) w2 := ⟨hX2.cell HS1.1, hX2.cell HS1.2.1, hX2.cell HS1.2.2⟩
    refine Or.inl ⟨_, rfl, fun _ => HS2, ?_⟩
    try simp only [List.setIfInBounds_toArray, List.set_cons_zero, List.set_cons_succ]
    refine takeD 11 [] (.tuple #[v2, .int .i64 0]) rfl rfl (by kernel_rfl) (by kernel_rfl) (by kernel_rfl) (by kernel_rfl) (by decide) (by decide) (fun _ _ _ h => h) (by rfl) (fun w' hw' => by go_simp) HS2 ?_
    try simp only [List.setIfInBounds_toArray, List.set_cons_zero, List.set_cons_succ]
    refine takeD 12 [] (v2) rfl rfl (by kernel_rfl) (by kernel_rfl) (by kernel_rfl) (by kernel_rfl) (by decide) (by decide) (fun _ _ _ h => h) (by rfl) (fun w' hw' => by go_simp) HS2 ?_
    try simp only [List.setIfInBounds_toArray, List.set_cons_zero, List.set_cons_succ]
    refine takeD 13 [] (.int .i64 0) rfl rfl (by kernel_rfl) (by kernel_rfl) (by kernel_rfl) (by kernel_rfl) (by decide) (by decide) (fun _ _ _ h => h) (by rfl) (fun w' hw' => by go_simp) HS2 ?_
    try simp only [List.setIfInBounds_toArray, List.set_cons_zero, List.set_cons_succ]
    refine takeD 14 [] (v2) rfl rfl (by kernel_rfl) (by kernel_rfl) (by kernel_rfl) (by kernel_rfl) (by decide) (by decide) (fun _ _ _ h => h) (by rfl) (fun w' hw' => by go_simp) HS2 ?_
    try simp only [List.setIfInBounds_toArray, List.set_cons_zero, List.set_cons_succ]
    refine takeD 15 [] (.int .i64 0) rfl rfl (by kernel_rfl) (by kernel_rfl) (by kernel_rfl) (by kernel_rfl) (by decide) (by decide) (fun _ _ _ h => h) (by rfl) (fun w' hw' => by go_simp) HS2 ?_
    try simp only [List.setIfInBounds_toArray, List.set_cons_zero, List.set_cons_succ]
    refine wpAnyD_done (by kernel_rfl) ?_ _
    show _
    obtain ⟨s2, hs2⟩ := HS2
    have hX12 : Ext w1 w2 := hEa.trans hX2
    obtain ⟨va, vc, rfl⟩ := rd8_one hR2
    have cw0 := hX12.cell cell0
    have cw2 := hX12.cell cell2
    have cw3 := hX12.cell cell3
    replace hR2 := hidden hR2
    replace hX12 := hidden hX12
    clear HS HS1 hRX1 hEa hX2 hEd cell0 cell2 cell3 s2 hs2
    go_upto_region 5 with fail
    refine wp_region_D (S := fun w' : World => w'.cell? ⟨ob, 0, none⟩ = some (.slice a0 n0 c0) ∧ w'.cell? ⟨ob, 2, none⟩ = some (.slice a2 n2 c2) ∧ w'.cell? ⟨ob, 3, none⟩ = some (.slice a3 n3 c3)) (D := []) (by kernel_rfl) ⟨cw0, cw2, cw3⟩ (fun HS => ?_)
    refine takeD 0 [] (.slice (some ⟨ob, 0, none⟩) 4 oc) rfl rfl (by kernel_rfl) (by kernel_rfl) (by kernel_rfl) (by kernel_rfl) (by decide) (by decide) (fun _ _ _ h => h) (by rfl) (fun w' hw' => by go_simp) HS ?_
    try simp only [List.setIfInBounds_toArray, List.set_cons_zero, List.set_cons_succ]
    refine takeD 1 [] (.pointer (some ⟨ob, 0, none⟩)) rfl rfl (by kernel_rfl) (by kernel_rfl) (by kernel_rfl) (by kernel_rfl) (by decide) (by decide) (fun _ _ _ h => h) (by rfl) (fun w' hw' => by go_simp) HS ?_
    try simp only [List.setIfInBounds_toArray, List.set_cons_zero, List.set_cons_succ]
    refine takeD 2 [] (.slice a0 n0 c0) rfl rfl (by kernel_rfl) (by kernel_rfl) (by kernel_rfl) (by kernel_rfl) (by decide) (by decide) (fun _ _ _ h => h) (by rfl) (fun w' hw' => by obtain ⟨p1, p2, p3⟩ := hw'; go_simp) HS ?_
    try simp only [List.setIfInBounds_toArray, List.set_cons_zero, List.set_cons_succ]
    refine takeD 3 [] (.slice (some ⟨ob, 0, none⟩) 4 oc) rfl rfl (by kernel_rfl) (by kernel_rfl) (by kernel_rfl) (by kernel_rfl) (by decide) (by decide) (fun _ _ _ h => h) (by rfl) (fun w' hw' => by go_simp) HS ?_
    try simp only [List.setIfInBounds_toArray, List.set_cons_zero, List.set_cons_succ]
    refine takeD 4 [] (.pointer (some ⟨ob, 3, none⟩)) rfl rfl (by kernel_rfl) (by kernel_rfl) (by kernel_rfl) (by kernel_rfl) (by decide) (by decide) (fun _ _ _ h => h) (by rfl) (fun w' hw' => by go_simp) HS ?_
    try simp only [List.setIfInBounds_toArray, List.set_cons_zero, List.set_cons_succ]
    refine takeD 5 [] (.slice a3 n3 c3) rfl rfl (by kernel_rfl) (by kernel_rfl) (by kernel_rfl) (by kernel_rfl) (by decide) (by decide) (fun _ _ _ h => h) (by rfl) (fun w' hw' => by obtain ⟨p1, p2, p3⟩ := hw'; go_simp) HS ?_
    try simp only [List.setIfInBounds_toArray, List.set_cons_zero, List.set_cons_succ]
    refine takeD 6 [] (.slice (some ⟨ob, 0, none⟩) 4 oc) rfl rfl (by kernel_rfl) (by kernel_rfl) (by kernel_rfl) (by kernel_rfl) (by decide) (by decide) (fun _ _ _ h => h) (by rfl) (fun w' hw' => by go_simp) HS ?_
    try simp only [List.setIfInBounds_toArray, List.set_cons_zero, List.set_cons_succ]
    refine takeD 7 [] (.pointer (some ⟨ob, 2, none⟩)) rfl rfl (by kernel_rfl) (by kernel_rfl) (by kernel_rfl) (by kernel_rfl) (by decide) (by decide) (fun _ _ _ h => h) (by rfl) (fun w' hw' => by go_simp) HS ?_
    try simp only [List.setIfInBounds_toArray, List.set_cons_zero, List.set_cons_succ]
    refine takeD 8 [] (.slice a2 n2 c2) rfl rfl (by kernel_rfl) (by kernel_rfl) (by kernel_rfl) (by kernel_rfl) (by decide) (by decide) (fun _ _ _ h => h) (by rfl) (fun w' hw' => by obtain ⟨p1, p2, p3⟩ := hw'; go_simp) HS ?_
    try simp only [List.setIfInBounds_toArray, List.set_cons_zero, List.set_cons_succ]
    obtain ⟨wd, hwd⟩ : ∃ X, w2.drew = X := ⟨_, rfl⟩
    rw [hwd] at HS ⊢
    have hEd : Ext w2 wd := by rw [← hwd]; exact (Ext.refl _).drew
    clear hwd
    have HS1 : (fun w' : World => w'.cell? ⟨ob, 0, none⟩ = some (.slice a0 n0 c0) ∧ w'.cell? ⟨ob, 2, none⟩ = some (.slice a2 n2 c2) ∧ w'.cell? ⟨ob, 3, none⟩ = some (.slice a3 n3 c3)) (wd.alloc (.cells #[.slice a0 n0 c0, .slice a3 n3 c3, .slice a2 n2 c2] 22)) := ⟨((Ext.refl wd).alloc _).cell HS.1, ((Ext.refl wd).alloc _).cell HS.2.1, ((Ext.refl wd).alloc _).cell HS.2.2⟩
    refine valueD 9 (.slice (some ⟨wd.heap.size, 0, none⟩) 3 3) rfl rfl (by kernel_rfl) (by rfl) (w' := wd.alloc (.cells #[.slice a0 n0 c0, .slice a3 n3 c3, .slice a2 n2 c2] 22)) (by go_simp) (fun _ => HS1) ?_
    try simp only [List.setIfInBounds_toArray, List.set_cons_zero, List.set_cons_succ]
    have hRX1 := hRX.out wd ((hX12.out).trans hEd)
    have hEa : Ext w2 (wd.alloc (.cells #[.slice a0 n0 c0, .slice a3 n3 c3, .slice a2 n2 c2] 22)) := hEd.alloc _
    refine callVD 10 10 #[.slice (some ⟨wd.heap.size, 0, none⟩) 3 3] rfl rfl (by kernel_rfl) (by rfl) (by go_simp) (hm.out _ _ hRX1) ?_
    intro e w3 hvm
    rcases vm_of (by omega) X3_inv hvm with ⟨y, -, -⟩ | ⟨-, v3, rfl, hR3, hX3⟩
    · rw [X3_notP] at y; omega
    · have HS2 : (fun w' : World => w'.cell? ⟨ob, 0, none⟩ = some (.slice a0 n0 c0) ∧ w'.cell? ⟨ob, 2, none⟩ = some (.slice a2 n2 c2) ∧ w'.cell? ⟨ob, 3, none⟩ = some (.slice a3 n3 c3)) w3 := ⟨hX3.cell HS1.1, hX3.cell HS1.2.1, hX3.cell HS1.2.2⟩
      refine Or.inl ⟨_, rfl, fun _ => HS2, ?_⟩
      try simp only [List.setIfInBounds_toArray, List.set_cons_zero, List.set_cons_succ]
      refine takeD 11 [] (.tuple #[v3, .int .i64 0]) rfl rfl (by kernel_rfl) (by kernel_rfl) (by kernel_rfl) (by kernel_rfl) (by decide) (by decide) (fun _ _ _ h => h) (by rfl) (fun w' hw' => by go_simp) HS2 ?_
      try simp only [List.setIfInBounds_toArray, List.set_cons_zero, List.set_cons_succ]
      refine takeD 12 [] (v3) rfl rfl (by kernel_rfl) (by kernel_rfl) (by kernel_rfl) (by kernel_rfl) (by decide) (by decide) (fun _ _ _ h => h) (by rfl) (fun w' hw' => by go_simp) HS2 ?_
      try simp only [List.setIfInBounds_toArray, List.set_cons_zero, List.set_cons_succ]
      refine takeD 13 [] (.int .i64 0) rfl rfl (by kernel_rfl) (by kernel_rfl) (by kernel_rfl) (by kernel_rfl) (by decide) (by decide) (fun _ _ _ h => h) (by rfl) (fun w' hw' => by go_simp) HS2 ?_
      try simp only [List.setIfInBounds_toArray, List.set_cons_zero, List.set_cons_succ]
      refine takeD 14 [] (v3) rfl rfl (by kernel_rfl) (by kernel_rfl) (by kernel_rfl) (by kernel_rfl) (by decide) (by decide) (fun _ _ _ h => h) (by rfl) (fun w' hw' => by go_simp) HS2 ?_
      try simp only [List.setIfInBounds_toArray, List.set_cons_zero, List.set_cons_succ]
      refine takeD 15 [] (.int .i64 0) rfl rfl (by kernel_rfl) (by kernel_rfl) (by kernel_rfl) (by kernel_rfl) (by decide) (by decide) (fun _ _ _ h => h) (by rfl) (fun w' hw' => by go_simp) HS2 ?_
      try simp only [List.setIfInBounds_toArray, List.set_cons_zero, List.set_cons_succ]
      refine wpAnyD_done (by kernel_rfl) ?_ _
      show _
      rw [X3_notP, X3_MI] at hR3
      obtain ⟨ma, mc, rfl, -⟩ := Rd.shape hR3
      obtain ⟨mb, mo, rfl, -, hcell⟩ := hR3.cells (by omega)
      have cm := hcell 0 (by simp [iv])
      rw [Nat.add_zero] at cm
      have cm1 : w3.cell? ⟨mb, mo, none⟩ = some (.int .i64 1) := cm
      have hX23 : Ext w2 w3 := hEa.trans hX3
      have hcv := rd8_conv (hR2.out.ext hX23) 22 5 9 Try.underlying22 Try.underlying5 Try.underlying9
      rw [hstr.out] at hcv
      have hfin : Hid (Ext w w3) := hidden ((hX01.out.trans hX12.out).trans hX23)
      clear HS HS1 HS2 hRX1 hEa hX3 hEd cw0 cw2 cw3 hR3 hcell cm hX23
      go_wp2_with fail
      go_ret
      exact ⟨rfl, hfin.out⟩
end Go.Proofs.Ytpfelklhejpnnaa
