/- parity.Recovery: the walk. -/
import Derived.Test.YtpfelklhejpnnaaHab
import Derived.Test.YtpfelklhejpnnaaGs
import Derived.Test.YtpfelklhejpnnaaGy
namespace Go.Proofs.Ytpfelklhejpnnaa
open Go.RowKit
set_option linter.unusedVariables false
set_option linter.unusedSimpArgs false
attribute [local go_sem ↓] Go.wp_at_zero Go.wp_at_succ

theorem recF_take (P : List (List Int)) (r s d k : Nat) (hd : P.length = d) (hk : k < ((matF d r).drop d).length) : (recF P r s).take (k + 1) = (recF P r s).take k ++ [combF (((matF d r).drop d).getD k []) P s] := by
  subst hd
  unfold recF
  rw [List.take_add_one, List.getElem?_map, List.getElem?_eq_getElem hk, List.getD_eq_getElem?_getD, List.getElem?_eq_getElem hk]
  rfl
theorem matF_len (d r : Nat) : (matF d r).length = d + r := by unfold matF; rw [List.length_append, cauF_len]; simp
theorem cauR_bytes (r c i : Nat) : Bytes (cauR r c i) := by
  intro x hx
  unfold cauR at hx
  obtain ⟨k, -, rfl⟩ := List.mem_map.1 hx
  have := Gf.inv_lt (i ^^^ (r + k))
  constructor <;> omega
theorem matF_bytes (d r : Nat) : ∀ l ∈ matF d r, Bytes l := by
  intro l hl
  unfold matF cauF at hl
  rcases List.mem_append.1 hl with h | h
  · obtain ⟨i, -, rfl⟩ := List.mem_map.1 h; exact unitR_bytes _ _
  · obtain ⟨i, -, rfl⟩ := List.mem_map.1 h; exact cauR_bytes r d i
theorem matF_wide (d r : Nat) : Wide (matF d r) d := by
  intro l hl
  unfold matF cauF at hl
  rcases List.mem_append.1 hl with h | h
  · obtain ⟨i, -, rfl⟩ := List.mem_map.1 h; exact unitR_len d i
  · obtain ⟨i, -, rfl⟩ := List.mem_map.1 h; exact cauR_len r d i
theorem getD_mem {α : Type} {L : List α} {k : Nat} (hk : k < L.length) (d : α) : L.getD k d ∈ L := by
  rw [List.getD_eq_getElem?_getD, List.getElem?_eq_getElem hk]
  exact List.getElem_mem _

set_option maxRecDepth 100000 in
set_option maxHeartbeats 2000000 in
theorem recovery_any (d r s : Nat) (hd : 1 ≤ d) (hdr : d + r ≤ 64) (hs1 : 1 ≤ s) (hs : s ≤ 1000) (vP : Value) (P : List (List Int)) (hl : P.length = d) (hPw : Wide P s) (hPb : ∀ l ∈ P, Bytes l) (w : World) (hr : RL w vP P) :
    Calls Try.prog 14 #[vP, .int .i64 (r : Int)] w fun e w' => ∃ v, e = .returned (.tuple #[v, .int .i64 0]) ∧ OL w' w.heap.size v (recF P r s) ∧ Ext w w' := by
  obtain ⟨ad, cap, rfl, q1, q2⟩ := hr.shape
  obtain ⟨b, off, a, c, rfl, cB, hrd⟩ := hr.row 0 (by omega)
  rw [hPw.at (by omega), Nat.add_zero] at cB
  rw [hl] at hr q1 ⊢
  obtain ⟨x, hx⟩ : ∃ x, w.heap.size = x := ⟨_, rfl⟩
  have HB0 := Blk.new w [.slice (some ⟨b, off, none⟩) d cap] 26
  have hX0 : Ext w (w.alloc (.cells #[.slice (some ⟨b, off, none⟩) d cap] 26)) := (Ext.refl w).alloc _
  have hmat := fun W => matrix_any d r hd hdr W
  have hcomb := fun W v row (h1 : row.length ≤ P.length) (h2 : Bytes row) y (h3 : W.cell? ⟨y, 0, none⟩ = some (.slice (some ⟨b, off, none⟩) d cap)) (h4 : RL W (.slice (some ⟨b, off, none⟩) d cap) P) h5 => comb1_any y s hs (.slice (some ⟨b, off, none⟩) d cap) P (by omega) (by omega) hPw hPb v row h1 h2 W h3 h4 h5
  have hcmb := fun W => combiner_any (.slice (some ⟨b, off, none⟩) d cap) _ d cap rfl W
  have hlong := fun W (h : RL W (.slice (some ⟨b, off, none⟩) d cap) P) => contains0_any 25 (fun _ => false) (.slice (some ⟨b, off, none⟩) d cap) P (by omega) W h (fun args w => by rfl) (fun k hk u W' hX hu => long_any u (P.getD k []) (by rw [hPw.at hk]; omega) W' hu)
  have hmis := fun W (h : RL W (.slice (some ⟨b, off, none⟩) d cap) P) y (hc : W.cell? ⟨y, 0, none⟩ = some (.slice (some ⟨b, off, none⟩) d cap)) (hc2 : W.cell? ⟨b, off, none⟩ = some (.slice a s c)) => contains1_any 26 y (fun _ => false) (.slice (some ⟨b, off, none⟩) d cap) P (by omega) W h (fun args w => by rfl) (fun k hk u W' hX hu =>
    rec1_any y b off d cap s c a u (P.getD k []) (hPw.at hk) hs1 (by omega) (by omega) W' hu (hX.cell hc) (hX.cell hc2))
  rw [show P.any (fun _ => false) = false from by simp] at hlong hmis
  rw [hx] at HB0
  have cX := HB0.cell 0 _ rfl
  have k1 : ¬ (d : Int) < 1 := by omega
  have k2 : ¬ (64 : Int) < (d : Int) := by omega
  have k3 : ¬ (r : Int) < 0 := by omega
  have k4 : IntKind.i64.wrap (64 - (d : Int)) = 64 - (d : Int) := IntWalk.i64_in _ (by omega)
  have k5 : ¬ 64 - (d : Int) < (r : Int) := by omega
  have hr0 := hr.ext hX0
  have cB0 := hX0.cell cB
  obtain ⟨w1, hw1⟩ : ∃ W, w.alloc (.cells #[.slice (some ⟨b, off, none⟩) d cap] 26) = W := ⟨_, rfl⟩
  have hw1' : Hid (w.alloc (.cells #[.slice (some ⟨b, off, none⟩) d cap] 26) = w1) := hidden hw1
  rw [hw1] at cX hr0 cB0 hX0
  have hl1 := hlong w1 hr0
  replace hr0 := hidden hr0
  replace hX0 := hidden hX0
  replace hl1 := hidden hl1
  replace hmat := hidden hmat
  replace hcomb := hidden hcomb
  replace hcmb := hidden hcmb
  replace hmis := hidden hmis
  replace hPw := hidden hPw
  replace hPb := hidden hPb
  clear hlong HB0 hrd hr cB hw1 q1 q2
  go_enter Try.func14, Try.ntmps14
  go_upto_region 1 with fail
  rw [hw1'.out]
  go_wp2_with fail
  refine hl1.out.mono ?_
  rintro e w2 ⟨rfl, hX2⟩
  have hX02 : Hid (Ext w w2) := hidden (hX0.out.trans hX2)
  have cX2 := hX2.cell cX
  have cB2 := hX2.cell cB0
  have hr2 := hr0.out.ext hX2
  have hm2 := hmis.out w2 hr2 x cX2 cB2
  replace hr2 := hidden hr2
  replace hm2 := hidden hm2
  clear hl1 hX2 cX cB0 hr0 hmis k1 k2 k3 k4 k5
  go_wp2_with fail
  refine hm2.out.mono ?_
  rintro e w3 ⟨rfl, hX3⟩
  have hX03 : Hid (Ext w w3) := hidden (hX02.out.trans hX3)
  have cX3 := hX3.cell cX2
  have hr3 := hr2.out.ext hX3
  have hcm3 := hcmb.out w3
  replace hr3 := hidden hr3
  replace hcm3 := hidden hcm3
  clear hX3 cX2 cB2 hr2 hm2 hX0 hw1'
  go_wp2_with fail
  refine hcm3.out.mono ?_
  rintro e w4 ⟨rfl, hw4⟩
  have hE34 : Ext w3 w4 := by rw [hw4]; exact (Ext.refl w3).alloc _
  have HBc := Blk.new w3 [.slice (some ⟨b, off, none⟩) d cap] 26
  rw [← hw4] at HBc
  obtain ⟨y, hy⟩ : ∃ y, w3.heap.size = y := ⟨_, rfl⟩
  rw [hy] at HBc ⊢
  have cY := HBc.cell 0 _ rfl
  have cX4 := hE34.cell cX3
  have hr4 := hr3.out.ext hE34
  have hX04 : Hid (Ext w w4) := hidden (hX03.out.trans hE34)
  have hm4 := hmat.out w4.drew
  replace hr4 := hidden hr4
  replace hm4 := hidden hm4
  clear hw4 hE34 HBc hr3 hcm3 hcmb hX02 hX03 cX3
  go_upto_region 9 with fail
  -- BEGIN9
  refine wp_region_D (S := fun w' : World => w'.cell? ⟨x, 0, none⟩ = some (.slice (some ⟨b, off, none⟩) d cap)) (D := []) (by kernel_rfl) cX4 (fun HS => ?_)
  refine takeD 0 [] (.slice (some ⟨b, off, none⟩) d cap) rfl rfl (by kernel_rfl) (by kernel_rfl) (by kernel_rfl) (by kernel_rfl) (by decide) (by decide) (fun _ _ _ h => h) (by rfl) (fun w' hw' => by have s1 : w'.cell? ⟨x, 0, none⟩ = some (.slice (some ⟨b, off, none⟩) d cap) := hw'; go_simp) HS ?_
  try simp only [List.setIfInBounds_toArray, List.set_cons_zero, List.set_cons_succ]
  refine takeD 1 [] (.int .i64 (d : Int)) rfl rfl (by kernel_rfl) (by kernel_rfl) (by kernel_rfl) (by kernel_rfl) (by decide) (by decide) (fun _ _ _ h => h) (by rfl) (fun w' hw' => by go_simp) HS ?_
  try simp only [List.setIfInBounds_toArray, List.set_cons_zero, List.set_cons_succ]
  refine takeD 2 [] (.int .i64 (r : Int)) rfl rfl (by kernel_rfl) (by kernel_rfl) (by kernel_rfl) (by kernel_rfl) (by decide) (by decide) (fun _ _ _ h => h) (by rfl) (fun w' hw' => by go_simp) HS ?_
  try simp only [List.setIfInBounds_toArray, List.set_cons_zero, List.set_cons_succ]
  refine takeD 4 [] (.slice (some ⟨b, off, none⟩) d cap) rfl rfl (by kernel_rfl) (by kernel_rfl) (by kernel_rfl) (by kernel_rfl) (by decide) (by decide) (fun _ _ _ h => h) (by rfl) (fun w' hw' => by have s1 : w'.cell? ⟨x, 0, none⟩ = some (.slice (some ⟨b, off, none⟩) d cap) := hw'; go_simp) HS ?_
  try simp only [List.setIfInBounds_toArray, List.set_cons_zero, List.set_cons_succ]
  refine takeD 5 [] (.int .i64 (d : Int)) rfl rfl (by kernel_rfl) (by kernel_rfl) (by kernel_rfl) (by kernel_rfl) (by decide) (by decide) (fun _ _ _ h => h) (by rfl) (fun w' hw' => by go_simp) HS ?_
  try simp only [List.setIfInBounds_toArray, List.set_cons_zero, List.set_cons_succ]
  refine takeD 8 [] (.int .i64 0) rfl rfl (by kernel_rfl) (by kernel_rfl) (by kernel_rfl) (by kernel_rfl) (by decide) (by decide) (fun _ _ _ h => h) (by rfl) (fun w' hw' => by go_simp) HS ?_
  try simp only [List.setIfInBounds_toArray, List.set_cons_zero, List.set_cons_succ]
  refine callVD 3 28 #[.int .i64 (d : Int), .int .i64 (r : Int)] rfl rfl (by kernel_rfl) (by rfl) (by go_simp) (hm4.out) ?_
  rintro e w5 ⟨v5, rfl, hM, hX5⟩
  have HS1 : (fun w' : World => w'.cell? ⟨x, 0, none⟩ = some (.slice (some ⟨b, off, none⟩) d cap)) (w5) := hX5.past_drew.cell cX4
  refine Or.inl ⟨_, rfl, fun _ => HS1, ?_⟩
  try simp only [List.setIfInBounds_toArray, List.set_cons_zero, List.set_cons_succ]
  obtain ⟨ma, mc, hme, -, -⟩ := hM.shape
  rw [matF_len] at hme
  subst hme
  obtain ⟨ma2, mc2, hcut, hR⟩ := hM.rl.drop d (by omega)
  rw [show d + r - d = r from by omega] at hcut hR
  refine valueD 6 (.slice ma2 r mc2) rfl rfl (by kernel_rfl) (by rfl) (w' := w5) (by go_simp) (fun _ => HS1) ?_
  try simp only [List.setIfInBounds_toArray, List.set_cons_zero, List.set_cons_succ]
  refine takeD 7 [] (.int .i64 (r : Int)) rfl rfl (by kernel_rfl) (by kernel_rfl) (by kernel_rfl) (by kernel_rfl) (by decide) (by decide) (fun _ _ _ h => h) (by rfl) (fun w' hw' => by go_simp) HS1 ?_
  try simp only [List.setIfInBounds_toArray, List.set_cons_zero, List.set_cons_succ]
  refine wpAnyD_done (by kernel_rfl) ?_ _
  show _
  -- END9
  have hX05 : Hid (Ext w w5) := hidden (hX04.out.trans hX5.past_drew)
  have cY5 := hX5.past_drew.cell cY
  have hr5 := hr4.out.ext hX5.past_drew
  obtain ⟨M, hM2⟩ : ∃ M, (matF d r).drop d = M := ⟨_, rfl⟩
  have hMw : Wide M d := by rw [← hM2]; exact recrow_wide d r
  have hMb : ∀ l ∈ M, Bytes l := by rw [← hM2]; exact fun l hl => matF_bytes d r l (List.mem_of_mem_drop hl)
  have hMl : M.length = r := by rw [← hM2, List.length_drop, matF_len]; omega
  have htk := fun k hk => recF_take P r s d k hl hk
  rw [hM2] at hR htk
  rw [hMl] at htk
  have hrf : (recF P r s).length = r := by unfold recF; rw [List.length_map, hl, hM2, hMl]
  replace hr5 := hidden hr5
  replace hMw := hidden hMw
  replace hMb := hidden hMb
  replace htk := hidden htk
  replace hR := hidden hR
  clear hM HS HS1 hcut hX5 hM2 cX4 cY hm4 hr4 hmat hX04
  go_upto_region 10 with fail
  go_loopw [7, 47] (fun u i wr => ∃ k : Nat, i = .int .i64 (k : Int) ∧ k ≤ r ∧ Hid (OL wr w5.heap.size u ((recF P r s).take k)) ∧ Hid (Ext w5 wr)) (fun _ i _ => r - (intOf i).toNat)
  case atStart => exact ⟨0, rfl, by omega, hidden (OL.nil _ _), hidden (Ext.refl w5)⟩
  case round =>
    obtain ⟨k, rfl, hk, hO, hX⟩ := hrel
    have v1 : IntKind.i64.wrap ((k : Int) + 1) = (k : Int) + 1 := IntWalk.i64_in _ (by omega)
    obtain ⟨w6, hWW⟩ : ∃ X, X = wr := ⟨_, rfl⟩
    subst hWW
    by_cases hlt : k < r
    · have hlt2 : (k : Int) < (r : Int) := by omega
      obtain ⟨b', off', a1, c1, rfl, cR, hrd⟩ := (hR.out.ext hX.out).row k hlt
      have hrw := hMw.out.at (show k < M.length by omega)
      have hrb := hMb.out _ (getD_mem (show k < M.length by omega) [])
      have hcm := hcomb.out w6 _ (M.getD k []) (by omega) hrb y (hX.out.cell cY5) (hr5.out.ext hX.out) hrd
      have ht := htk.out k hlt
      have hLl := take_len hrf (show k ≤ r by omega)
      obtain ⟨L, hLe⟩ : ∃ L, (recF P r s).take k = L := ⟨_, rfl⟩
      rw [hLe] at ht hLl
      have hO6 : Hid (OL w6 w5.heap.size u7 L) := hidden (hLe ▸ hO.out)
      rw [hrw] at cR hcm
      have hDl : (combF (M.getD k []) P s).length = s := by unfold combF; exact combK_len _ _ _ _
      obtain ⟨D, hD⟩ : ∃ D, combF (M.getD k []) P s = D := ⟨_, rfl⟩
      rw [hD] at hcm ht hDl
      replace hcm := hidden hcm
      replace ht := hidden ht
      clear hrd hrw hrb hD hO hLe
      go_wp2_with fail
      refine hcm.out.mono ?_
      rintro e w7 ⟨v7, rfl, hO7, hX7⟩
      obtain ⟨ua, uc, rfl⟩ := rd8_one hO7.rd
      rw [hDl] at hO7 ⊢
      have hne := OL.ne hO6.out hO7
      have hrd7 := hO7.rd
      replace hne := hidden hne
      replace hrd7 := hidden hrd7
      replace hX7 := hidden hX7
      clear hcm hO7
      go_wp2_with (at_builtin; refine wpList_append_fresh rfl _ _ rfl w5 w6 w7 u7 L rfl hO6.out hX.out hX7.out ua s uc D hrd7.out hne.out rfl (by omega) ?_; intro v8 w8 hown hX8)
      exact ⟨⟨k + 1, by go_num, by omega, hidden (by rw [ht.out]; exact hown), hidden hX8⟩, by simp [intOf]; omega⟩
    · have hke : k = r := by omega
      have hO2 := hO.out
      rw [hke, List.take_of_length_le (by omega)] at hO2
      have hk8 : decide ((k : Int) < (r : Int)) = false := decide_eq_false (by omega)
      have hXf : Hid (Ext w w6) := hidden (hX05.out.trans hX.out)
      replace hO2 := hidden hO2
      clear hO hke
      go_wp2_with fail
      refine bodyPost_ret (results_tmp2 rfl _ _ _) rfl ?_
      exact ⟨_, rfl, hO2.out.base hX05.out.size, hXf.out⟩
end Go.Proofs.Ytpfelklhejpnnaa

/- parity.present$1: the parts that are not lost, with their indices. -/
namespace Go.Proofs.Ytpfelklhejpnnaa
open Go.RowKit Go.Shelf
set_option linter.unusedVariables false
set_option linter.unusedSimpArgs false
attribute [local go_sem] Oper.semAt_some

/-- The indices of the parts that hold something, among the first. -/
def PI (N : Nat → Nat) (k : Nat) : List Nat := (List.range k).filter fun i => decide (0 < N i)
theorem PI_yes {N : Nat → Nat} {k : Nat} (h : 0 < N k) : PI N (k + 1) = PI N k ++ [k] := by
  unfold PI; rw [List.range_succ, List.filter_append]; simp [h]
theorem PI_no {N : Nat → Nat} {k : Nat} (h : ¬ 0 < N k) : PI N (k + 1) = PI N k := by
  unfold PI; rw [List.range_succ, List.filter_append]; simp [h]
theorem PI_len (N : Nat → Nat) (k : Nat) : (PI N k).length ≤ k := by
  have := List.length_filter_le (fun i => decide (0 < N i)) (List.range k)
  simpa [PI] using this
theorem PI_pre (N : Nat → Nat) (n : Nat) : ∀ k, k ≤ n → PI N k <+: PI N n := by
  induction n with
  | zero => intro k hk; rw [show k = 0 from by omega]; exact List.prefix_refl _
  | succ n ih =>
    intro k hk
    by_cases e : k = n + 1
    · subst e; exact List.prefix_refl _
    · refine List.IsPrefix.trans (ih k (by omega)) ?_
      by_cases h : 0 < N n
      · rw [PI_yes h]; exact List.prefix_append _ _
      · rw [PI_no h]; exact List.prefix_refl _
theorem PI_lt {N : Nat → Nat} {n k : Nat} (hk : k < n) (h : 0 < N k) : (PI N k).length < (PI N n).length := by
  have := (PI_pre N n (k + 1) (by omega)).length_le
  rw [PI_yes h] at this
  simp at this
  omega
theorem PI_at {N : Nat → Nat} {n k : Nat} (hk : k < n) (h : 0 < N k) : (PI N n).getD (PI N k).length 0 = k := by
  obtain ⟨t, ht⟩ := PI_pre N n (k + 1) (by omega)
  rw [PI_yes h] at ht
  rw [← ht, List.getD_eq_getElem?_getD, List.append_assoc, List.getElem?_append_right (Nat.le_refl _)]
  simp
theorem PI_pos {N : Nat → Nat} {n j : Nat} (hj : j < (PI N n).length) : (PI N n).getD j 0 < n ∧ 0 < N ((PI N n).getD j 0) := by
  have := getD_mem hj 0
  unfold PI at this ⊢
  rw [List.mem_filter] at this
  simp at this
  exact ⟨by simpa using this.1, by simpa using this.2⟩

/-- The slices' heads. -/
def hdV (A : Nat → Option Addr) (N C : Nat → Nat) (i : Nat) : Value := .slice (A i) (N i) (C i)
def hdL (A : Nat → Option Addr) (N C : Nat → Nat) (n : Nat) : List Value := (List.range n).map (hdV A N C)
theorem hdL_len (A : Nat → Option Addr) (N C : Nat → Nat) (n : Nat) : (hdL A N C n).length = n := by simp [hdL]
theorem hdL_get (A : Nat → Option Addr) (N C : Nat → Nat) (n i : Nat) (h : i < n) : (hdL A N C n).getD i undef = hdV A N C i := by simp [hdL, List.getD, h]
def encP (A : Nat → Option Addr) (N C : Nat → Nat) (n : Nat) (x : Fin (PI N n).length) : Array Value := #[.int .i64 (((PI N n).getD x.val 0 : Nat) : Int), hdV A N C ((PI N n).getD x.val 0)]
set_option maxRecDepth 100000 in
set_option maxHeartbeats 2000000 in
theorem present1_in (m : Nat) (hm : 2 ≤ m) (l B0 n cap : Nat) (ad : Option Addr) (A : Nat → Option Addr) (N C : Nat → Nat) (hn : n ≤ 100000) (S : List Nat) (hS0 : B0 ∈ S) (hSv : 0 < n → ∀ g, (Value.slice ad n cap).ownBlock = some g → g ∈ S)
    (J Jx : List (Fin (PI N n).length) → World → Prop) (W : World) (hJ : AbidesFrom W.heap.size J) (hlt : ∀ z ∈ S, z < W.heap.size)
    (hY : ∀ pre z W1, J pre W1 → pre.length < n → YieldAt Fence.wide (m - 1) Try.prog l (encP A N C n z) W1 fun e W' =>
      (e = .returned (.bool true) ∧ J (pre ++ [z]) W' ∧ (KeepS S W1 W' ∧ W1.heap.size ≤ W'.heap.size)) ∨ (e = .returned (.bool false) ∧ Jx (pre ++ [z]) W'))
    (b0 : Blk W B0 26 [.slice ad n cap]) (hR : Rd W 1 (.slice ad n cap) n (hdL A N C n)) (h0 : J [] W) :
    CallsIn Fence.wide m Try.prog 70 #[.func (.yield l) #[] #[], .pointer (some ⟨B0, 0, none⟩)] W fun e W' => (∃ v, e = .returned v) ∧
      ((∃ ys, ys = List.finRange (PI N n).length ∧ J ys W') ∨ (∃ pre, (∃ k, k ≤ (PI N n).length ∧ pre = upF (PI N n).length k) ∧ Jx pre W')) := by
  refine callsIn_of_wp Try.func70 rfl trivial ?_ rfl
  simp only [Try.ntmps70, List.size_toArray, List.length_cons, List.length_nil, Nat.reduceAdd, Nat.reduceSub, Array.replicate_succ, Array.replicate_zero, List.push_toArray, List.append_toArray, List.nil_append, List.cons_append]
  have c0 := b0.cell 0 _ rfl
  have hm1 : 1 ≤ m := by omega
  have hm2 : 1 ≤ m - 1 := by omega
  gi_wp2
  clear c0
  gi_loopw [7] (fun i wr => ∃ k : Nat, k ≤ n ∧ i = .int .i64 (k : Int) ∧ J (upF (PI N n).length (PI N k).length) wr ∧ KeepS S W wr ∧ W.heap.size ≤ wr.heap.size)
    (fun i _ => n - (intOf i).toNat)
  case atStart => exact ⟨0, Nat.zero_le _, by go_num, h0, KeepS.refl _ _, Nat.le_refl _⟩
  case round =>
    obtain ⟨k, hk, rfl, hJs, hK, hsz⟩ := hrel
    by_cases hlt' : k < n
    · have k1 : (k : Int) < (n : Int) := by omega
      have v1 : IntKind.i64.wrap ((k : Int) + 1) = (k : Int) + 1 := IntWalk.i64_in _ (by omega)
      have hRk := hR.keep hK hSv hsz
      obtain ⟨bb, off, rfl, -, hcell⟩ := hRk.cells (by omega)
      have cB := hcell k (by rw [hdL_len]; exact hlt')
      rw [hdL_get _ _ _ _ _ hlt'] at cB
      unfold hdV at cB
      clear hcell hRk
      obtain ⟨mk, hmk⟩ : ∃ t, N k = t := ⟨_, rfl⟩
      obtain ⟨ak, hak⟩ : ∃ t, A k = t := ⟨_, rfl⟩
      obtain ⟨ck, hck⟩ : ∃ t, C k = t := ⟨_, rfl⟩
      by_cases hpos : 0 < N k
      · have hp2 : (0 : Int) < (mk : Int) := by omega
        have hp3 := PI_lt hlt' hpos
        have hp4 := PI_at hlt' hpos
        have hp5 := PI_yes hpos
        obtain ⟨fn, tmps, assign, body, hy, hR'⟩ := hY _ ⟨(PI N k).length, hp3⟩ wr hJs (by rw [upF_len (by omega)]; have := PI_len N k; omega)
        unfold encP hdV at hy
        dsimp only at hy
        rw [hp4, hmk, hak, hck] at hy
        rw [hmk, hak, hck] at cB
        have key : ∀ (e : Ending) (W' : World), (e = .returned (.bool true) ∧ J (upF (PI N n).length (PI N k).length ++ [⟨(PI N k).length, hp3⟩]) W' ∧ KeepS S wr W' ∧ wr.heap.size ≤ W'.heap.size ∨ e = .returned (.bool false) ∧ Jx (upF (PI N n).length (PI N k).length ++ [⟨(PI N k).length, hp3⟩]) W') →
            (e = .returned (.bool true) ∧ Hid (J (upF (PI N n).length (PI N (k + 1)).length) W' ∧ KeepS S W W' ∧ W.heap.size ≤ W'.heap.size)) ∨ (e = .returned (.bool false) ∧ Hid (Jx (upF (PI N n).length (PI N (k + 1)).length) W')) := by
          intro e W' h
          rw [hp5, List.length_append, List.length_singleton, upF_succ hp3]
          rcases h with ⟨h1, h2, h3, h4⟩ | ⟨h1, h2⟩
          · exact Or.inl ⟨h1, h2, hK.trans h3, by omega⟩
          · exact Or.inr ⟨h1, h2⟩
        have hle : Hid ((PI N (k + 1)).length ≤ (PI N n).length) := hidden (PI_pre N n (k + 1) (by omega)).length_le
        replace key := hidden key
        replace hK := hidden hK
        clear hmk hak hck hp4 hp5
        gi_wp2
        refine hR'.mono ?_
        intro e W3 h3
        rcases key.out e W3 h3 with ⟨rfl, h4⟩ | ⟨rfl, h4⟩
        · gi_wp2
          go_roundw
          case rel => exact ⟨k + 1, by omega, by go_num, h4.out.1, h4.out.2.1, h4.out.2.2⟩
          case measure => simp [intOf]; omega
        · gi_wp2
          refine ⟨rfl, _, results_none rfl _ _ _, ?_⟩
          exact ⟨⟨_, rfl⟩, .inr ⟨_, ⟨(PI N (k + 1)).length, hle.out, rfl⟩, h4.out⟩⟩
      · have hp2 : ¬ (0 : Int) < (mk : Int) := by omega
        have hJ2 : J (upF (PI N n).length (PI N (k + 1)).length) wr := by rw [PI_no hpos]; exact hJs
        rw [hmk, hak, hck] at cB
        replace hJ2 := hidden hJ2
        clear hJs hmk hak hck
        refine wpIn_wide.2 ?_
        go_wp2_with fail
        exact ⟨⟨k + 1, by omega, by go_num, hJ2.out, hK, hsz⟩, by simp [intOf]; omega⟩
    · have k1 : ¬ (k : Int) < (n : Int) := by omega
      have k2 : k = n := by omega
      have hJn : J (List.finRange (PI N n).length) wr := by rw [← upF_all]; rw [k2] at hJs; exact hJs
      replace k2 := hidden k2
      refine wpIn_wide.2 ?_
      go_wp2_with fail
      refine ⟨rfl, _, results_none rfl _ _ _, ?_⟩
      exact ⟨⟨_, rfl⟩, .inl hJn⟩
theorem present_stops (m : Nat) (hm : 2 ≤ m) (B0 n cap : Nat) (ad : Option Addr) (A : Nat → Option Addr) (N C : Nat → Nat) (hn : n ≤ 100000) (S : List Nat) (hS0 : B0 ∈ S) (hSv : 0 < n → ∀ g, (Value.slice ad n cap).ownBlock = some g → g ∈ S)
    (w : World) (hlt : ∀ z ∈ S, z < w.heap.size) (b0 : Blk w B0 26 [.slice ad n cap]) (hR : Rd w 1 (.slice ad n cap) n (hdL A N C n)) :
    SeqStopsK Fence.wide m Try.prog 70 #[.pointer (some ⟨B0, 0, none⟩)] (encP A N C n) (fun A B => KeepS S A B ∧ A.heap.size ≤ B.heap.size) (fun ys => ys = List.finRange (PI N n).length) (fun pre => ∃ k, k ≤ (PI N n).length ∧ pre = upF (PI N n).length k) n w :=
  fun l J Jx W hW hJ hJx hY h0 =>
    have hE : Ext w W := hW
    present1_in m hm l B0 n cap ad A N C hn S hS0 hSv J Jx W hJ (fun z hz => Nat.lt_of_lt_of_le (hlt z hz) hE.size) hY (b0.ext hE) (Rd.ext hR hE) h0
end Go.Proofs.Ytpfelklhejpnnaa

/- parity.Check of parts that are all of one length, or lost. -/
namespace Go.Proofs.Ytpfelklhejpnnaa
open Go.RowKit Go.Shelf
set_option linter.unusedVariables false
set_option linter.unusedSimpArgs false
attribute [local go_sem] Oper.semAt_some

def vA : Value → Option Addr | .slice a _ _ => a | _ => none
def vC : Value → Nat | .slice _ _ c => c | _ => 0
def ln (L : List (List Int)) (i : Nat) : Nat := (L.getD i []).length
theorem RL.heads {w : World} {v : Value} {L : List (List Int)} (h : RL w v L) : ∃ (A : Nat → Option Addr) (C : Nat → Nat), Rd w 1 v L.length (hdL A (ln L) C L.length) ∧ ∀ i, i < L.length → Rd8 w (hdV A (ln L) C i) (L.getD i []) := by
  obtain ⟨vs, h1, h2⟩ := h
  have hl : vs.length = L.length := by have := h2.1; simpa using this
  have key : ∀ i (hi : i < L.length), Rd8 w (vs[i]'(by omega)) (L.getD i []) := fun i hi => by
    have e3 : L[i]? = some L[i] := List.getElem?_eq_getElem hi
    have := h2.2 i (vs[i]'(by omega)) (bs L[i]) (List.getElem?_eq_getElem (by omega)) (by rw [List.getElem?_map, e3]; rfl)
    rw [bs_len] at this
    rw [List.getD_eq_getElem?_getD, e3]
    exact this
  have hd : ∀ i (hi : i < L.length), hdV (fun i => vA (vs.getD i undef)) (ln L) (fun i => vC (vs.getD i undef)) i = vs[i]'(by omega) := fun i hi => by
    obtain ⟨a, c, e⟩ := rd8_one (key i hi)
    have hv : vs.getD i undef = vs[i]'(by omega) := by rw [List.getD_eq_getElem?_getD, List.getElem?_eq_getElem (show i < vs.length by omega)]; rfl
    unfold hdV ln
    simp only [hv]
    rw [e]
    rfl
  refine ⟨fun i => vA (vs.getD i undef), fun i => vC (vs.getD i undef), ?_, fun i hi => ?_⟩
  · have : hdL (fun i => vA (vs.getD i undef)) (ln L) (fun i => vC (vs.getD i undef)) L.length = vs := by
      apply List.ext_getElem (by rw [hdL_len, hl])
      intro i h3 h4
      rw [show (hdL (fun i => vA (vs.getD i undef)) (ln L) (fun i => vC (vs.getD i undef)) L.length)[i] = hdV (fun i => vA (vs.getD i undef)) (ln L) (fun i => vC (vs.getD i undef)) i from by simp [hdL]]
      exact hd i (by omega)
    rw [this]
    exact h1
  · rw [hd i hi]; exact key i hi
def Fits (L : List (List Int)) (s : Nat) : Prop := ∀ l ∈ L, l = [] ∨ l.length = s
theorem Fits.at {L : List (List Int)} {s : Nat} (h : Fits L s) (i : Nat) (hp : 0 < ln L i) : ln L i = s := by
  unfold ln at hp ⊢
  rw [List.getD_eq_getElem?_getD] at hp ⊢
  cases e : L[i]? with
  | none => rw [e] at hp; simp at hp
  | some l =>
    rw [e] at hp
    have := h l (List.mem_of_getElem? e)
    simp at hp ⊢
    rcases this with h1 | h1
    · exact absurd h1 (by intro h2; simp [h2] at hp)
    · exact h1
theorem Fits.le {L : List (List Int)} {s : Nat} (h : Fits L s) (i : Nat) : ln L i ≤ s := by
  by_cases hp : 0 < ln L i
  · exact Nat.le_of_eq (h.at i hp)
  · omega
def lenV {α : Type} (s : Nat) (pre : List α) : Nat := if pre = [] then 0 else s
def ZeroP (w : World) (e : Ending) (w' : World) : Prop := e = .returned (.int .i64 0) ∧ Ext w w'
theorem present2_any (ad : Option Addr) (n c : Nat) (w : World) : Calls Try.prog 53 #[.slice ad n c] w fun e w' => e = .returned (.func (.func 70) #[] #[.pointer (some ⟨w.heap.size, 0, none⟩)]) ∧ w' = w.alloc (.cells #[.slice ad n c] 26) := present_any _ ad n c rfl w
set_option maxRecDepth 100000 in
set_option maxHeartbeats 4000000 in
theorem check_any (n d s : Nat) (h1n : 1 ≤ n) (hn : n ≤ 64) (h1d : 1 ≤ d) (hd : d ≤ n) (h1s : 1 ≤ s) (hs : s ≤ 1000) (vP : Value) (P : List (List Int)) (hl : P.length = n) (hF : Fits P s) (w : World) (hr : RL w vP P) :
    Calls Try.prog 68 #[vP, .int .i64 (d : Int)] w (ZeroP w) := by
  obtain ⟨ad, cap, rfl, q1, q2⟩ := hr.shape
  have hlong := fun W (h : RL W (.slice ad P.length cap) P) => contains0_any 25 (fun _ => false) (.slice ad P.length cap) P (by omega) W h (fun args w => by rfl) (fun k hk u W' hX hu => long_any u (P.getD k []) (by have := hF.le k; unfold ln at this; omega) W' hu)
  rw [show P.any (fun _ => false) = false from by simp] at hlong
  rw [hl] at hr q1 hlong ⊢
  have k1 : ¬ (n : Int) < 1 := by omega
  have k2 : ¬ (64 : Int) < (n : Int) := by omega
  have k3 : ¬ (d : Int) < 1 := by omega
  have k4 : ¬ (n : Int) < (d : Int) := by omega
  replace hlong := hidden hlong
  replace hr := hidden hr
  replace hF := hidden hF
  have hl1 := hlong.out (w.alloc (.cells #[.int .i64 0] 27)) (hr.out.ext ((Ext.refl w).alloc _))
  replace hl1 := hidden hl1
  refine (callsIn_wide (n := 6)).1 ?_
  refine callsIn_of_wp_marks Try.func68 rfl trivial ?_ rfl
  simp only [Try.ntmps68, List.size_toArray, List.length_cons, List.length_nil, Nat.reduceAdd, Nat.reduceSub, Array.replicate_succ, Array.replicate_zero, List.push_toArray, List.append_toArray, List.nil_append, List.cons_append]
  refine wpIn_wide.2 ?_
  go_wp2_with fail
  refine hl1.out.mono ?_
  rintro e w1 ⟨rfl, hX1⟩
  go_wp2_with (go_at_call 53; refine (present2_any ad n cap _).mono ?_; rintro e w2 ⟨rfl, rfl⟩)
  -- THE LOOP
  obtain ⟨s0, hs0⟩ : ∃ x, w.heap.size = x := ⟨_, rfl⟩
  obtain ⟨s1, hs1⟩ : ∃ x, w1.heap.size = x := ⟨_, rfl⟩
  have hX01 : Ext w w1 := hX1.past
  have hlt01 : s0 < s1 := by
    have := hX1.size
    simp at this
    omega
  have hEX : Ext w1 ((w1.alloc (.cells #[.int .i64 0] 3)).alloc (.cells #[.slice ad n cap] 26)) := ((Ext.refl w1).alloc _).alloc _
  have e0 : Blk ((w1.alloc (.cells #[.int .i64 0] 3)).alloc (.cells #[.slice ad n cap] 26)) s0 27 [.int .i64 0] := by
    have := (Blk.new w [.int .i64 0] 27).ext (hX1.trans hEX)
    rw [hs0] at this
    exact this
  have e1 : Blk ((w1.alloc (.cells #[.int .i64 0] 3)).alloc (.cells #[.slice ad n cap] 26)) s1 3 [.int .i64 0] := by
    have := (Blk.new w1 [.int .i64 0] 3).alloc (.cells #[.slice ad n cap] 26)
    rw [hs1] at this
    exact this
  have e2 : Blk ((w1.alloc (.cells #[.int .i64 0] 3)).alloc (.cells #[.slice ad n cap] 26)) (s1 + 1) 26 [.slice ad n cap] := blk_newAt' (w1.alloc (.cells #[.int .i64 0] 3)) [.slice ad n cap] 26 (s1 + 1) (by simp only [World.size_alloc, hs1])
  have e5 : Ext w ((w1.alloc (.cells #[.int .i64 0] 3)).alloc (.cells #[.slice ad n cap] 26)) := hX01.trans hEX
  have hsz : ((w1.alloc (.cells #[.int .i64 0] 3)).alloc (.cells #[.slice ad n cap] 26)).heap.size = s1 + 1 + 1 := by simp only [World.size_alloc, hs1]
  obtain ⟨W3, hW3⟩ : ∃ X, (w1.alloc (.cells #[.int .i64 0] 3)).alloc (.cells #[.slice ad n cap] 26) = X := ⟨_, rfl⟩
  rw [hW3] at e0 e1 e2 e5 hsz ⊢
  rw [hs0, hs1]
  clear hW3 hEX hX1
  obtain ⟨A, C, hA, hB⟩ := RL.heads hr.out
  rw [hl] at hA
  have hRd := Rd.ext hA e5
  have hlt0 : ∀ z ∈ (if 0 < n then (Value.slice ad n cap).ownBlock.toList else []), z < w.heap.size := by
    intro z hz
    split at hz
    · next hn0 =>
      obtain ⟨b', off', rfl, hb, -⟩ := hA.cells hn0
      simp [Value.ownBlock] at hz
      omega
    · cases hz
  have hlt : ∀ z ∈ ([s1 + 1] ++ (if 0 < n then (Value.slice ad n cap).ownBlock.toList else [])), z < W3.heap.size := by
    intro z hz
    rcases List.mem_append.1 hz with hz | hz
    · simp at hz; omega
    · have := hlt0 z hz; have := e5.size; omega
  have hnd : ∀ z ∈ ([s1 + 1] ++ (if 0 < n then (Value.slice ad n cap).ownBlock.toList else [])), z ≠ s1 := by
    intro z hz
    rcases List.mem_append.1 hz with hz | hz
    · simp at hz; omega
    · have := hlt0 z hz; have := hX01.size; omega
  have hS1 : s1 + 1 ∈ ([s1 + 1] ++ (if 0 < n then (Value.slice ad n cap).ownBlock.toList else [])) := by simp
  have hS2 : 0 < n → ∀ g, (Value.slice ad n cap).ownBlock = some g → g ∈ ([s1 + 1] ++ (if 0 < n then (Value.slice ad n cap).ownBlock.toList else [])) := fun hn0 g hg => by rw [if_pos hn0, hg]; simp
  obtain ⟨S, hS⟩ : ∃ S, ([s1 + 1] ++ (if 0 < n then (Value.slice ad n cap).ownBlock.toList else [])) = S := ⟨_, rfl⟩
  rw [hS] at hlt hnd hS1 hS2
  clear hS
  replace hsz := hidden hsz
  replace hs0 := hidden hs0
  replace hs1 := hidden hs1
  replace hB := hidden hB
  replace hX01 := hidden hX01
  rename_i KK hKK
  refine (wpIn_wide (n := 6)).1 ?_
  refine wpIn_rangeFunc_ownG rfl (by omega) (gf := 70) (lb := #[.pointer (some ⟨s1 + 1, 0, none⟩)]) rfl trivial (enters_of Try.func70 (by kernel_rfl) rfl)
    (present_stops 5 (by omega) (s1 + 1) n cap ad A (ln P) C (by omega) S hS1 hS2 W3 hlt e2 hRd) keepz_t (keepz_b hlt) (Below.refl _ _) (fun _ => rfl)
    (fun pre W => (Blk W s1 3 [.int .i64 (lenV s pre : Int)] ∧ Blk W s0 27 [.int .i64 0]) ∧ Below w.heap.size w W)
    (fun _ _ _ => False)
    (OwnFrom.and (OwnFrom.and (Own.from (blk_own _ _ (fun pre => [.int .i64 (lenV s pre : Int)])) _) (Own.from (blk_own _ _ (fun _ => [.int .i64 0])) _)) (ownFrom_below (Nat.le_refl _) (by have := e5.size; omega)))
    (fun _ _ _ _ _ hs _ _ => hs)
    ⟨⟨e1, e0⟩, e5⟩
    (fun x => { tmps := #[.slice ad n cap, .int .i64 (d : Int), undef, undef, .pointer (some ⟨s0, 0, none⟩), .pointer (some ⟨s1, 0, none⟩), undef, hdV A (ln P) C ((PI (ln P) n).getD x.val 0), .bool false, .slice ad n cap, .int .i64 (n : Int), .bool false, .bool false, .slice ad n cap, .int .i64 (n : Int), .bool false, .bool false, .bool false, .int .i64 (d : Int), .bool false, .bool false, .int .i64 (d : Int), .slice ad n cap, .int .i64 (n : Int), .bool false, .bool false, .bool false, .slice ad n cap, .bool false, .slice ad n cap, .func (.func 70) #[] #[.pointer (some ⟨s1 + 1, 0, none⟩)], .int .i64 (((PI (ln P) n).getD x.val 0 : Nat) : Int), hdV A (ln P) C ((PI (ln P) n).getD x.val 0), undef, undef, undef, undef, undef, undef, undef, undef, undef, undef], defers := [] }) ?assign ?body ?done ?stop
  case assign =>
    intro l x W K hK
    unfold encP
    obtain ⟨i, hi⟩ : ∃ y, (PI (ln P) n).getD x.val 0 = y := ⟨_, rfl⟩
    rw [hi] at hK ⊢
    obtain ⟨v, hv⟩ : ∃ y, hdV A (ln P) C i = y := ⟨_, rfl⟩
    rw [hv] at hK ⊢
    clear hi hv
    gi_wp2
    exact hK
  case body =>
    rintro l pre x W ⟨⟨b1, b0⟩, hBW⟩ hlen
    have hN := hF.out.at _ (PI_pos x.isLt).2
    obtain ⟨i, hi⟩ : ∃ y, (PI (ln P) n).getD x.val 0 = y := ⟨_, rfl⟩
    rw [hi] at hN ⊢
    unfold hdV
    rw [hN]
    obtain ⟨a, ha⟩ : ∃ a, A i = a := ⟨_, rfl⟩
    obtain ⟨c, hc⟩ : ∃ c, C i = c := ⟨_, rfl⟩
    rw [ha, hc]
    have hls : lenV s (pre ++ [x]) = s := by simp [lenV]
    have hl2 : (lenV s pre = 0) ∨ (lenV s pre = s) := by unfold lenV; split <;> simp
    obtain ⟨t, ht⟩ : ∃ t, lenV s pre = t := ⟨_, rfl⟩
    rw [ht] at b1 hl2
    have c1 := b1.cell 0 _ rfl
    have f1 := b1.frozen 0
    have hb1 := b1.set 0 (.int .i64 (s : Int))
    have hb0 := b0.set_other (i := 0) (c := s1) (by omega) (.int .i64 (s : Int))
    have hBs := hBW.setCell (p := ⟨s1, 0, none⟩) (show w.heap.size ≤ s1 by have := hX01.out.size; rw [hs1.out] at this; exact this) (.int .i64 (s : Int))
    have hfin : Hid (KeepsFrom W3.heap.size W (W.setCell ⟨s1, 0, none⟩ (.int .i64 (s : Int))) ∧ (KeepS S W (W.setCell ⟨s1, 0, none⟩ (.int .i64 (s : Int))) ∧ W.heap.size ≤ (W.setCell ⟨s1, 0, none⟩ (.int .i64 (s : Int))).heap.size) ∧
      (Blk (W.setCell ⟨s1, 0, none⟩ (.int .i64 (s : Int))) s1 3 [.int .i64 (lenV s (pre ++ [x]) : Int)] ∧ Blk (W.setCell ⟨s1, 0, none⟩ (.int .i64 (s : Int))) s0 27 [.int .i64 0]) ∧ Below w.heap.size w (W.setCell ⟨s1, 0, none⟩ (.int .i64 (s : Int)))) :=
      hidden ⟨(KeepsOthers.setCell _ _ _).from _, ⟨fun z hz => Below.heap_setCell _ _ _ _ (hnd z hz), by simp⟩, ⟨by rw [hls]; exact hb1, hb0⟩, hBs⟩
    clear hb1 hb0 hBs hls ht hlen e0 e1 e2 e5 hRd hA b0 b1 hBW hi ha hc hN
    rcases hl2 with rfl | rfl
    · have v1 : ¬ (0 : Int) < 0 := by omega
      gi_wp2
      exact hfin.out
    · have v1 : (0 : Int) < (t : Int) := by omega
      have v2 : ((t : Int) != (t : Int)) = false := by simp
      gi_wp2
      exact hfin.out
  case done =>
    rintro E ys W hD rfl ⟨⟨b1, b0⟩, hBW⟩ hK
    have c0 := b0.cell 0 _ rfl
    have f0 := b0.frozen 0
    have hX' := hBW.setCell (p := ⟨s0, 0, none⟩) (show w.heap.size ≤ s0 by rw [hs0.out]; exact Nat.le_refl _) (.int .i64 0)
    have hK2 : (W.setCell ⟨s0, 0, none⟩ (.int .i64 0)).heap[E]? = some (.deferred (some [])) := by
      rw [Below.heap_setCell _ _ _ _ (show E ≠ s0 by rw [hsz.out] at hD; omega)]
      exact hK
    have hB8 := b0.set 0 (.int .i64 0)
    have hB9 : Blk ((W.setCell ⟨s0, 0, none⟩ (.int .i64 0)).putObj E (.deferred none)) s0 27 [.int .i64 0] := by
      unfold Blk at hB8 ⊢
      rw [World.putObj_heap_other (show s0 ≠ E by rw [hsz.out] at hD; omega)]
      exact hB8
    have hc9 := hB9.cell 0 _ rfl
    have hsE : s0 ≤ E := by rw [hsz.out] at hD; omega
    go_wp2_with fail
    refine ⟨by simp, .inl ⟨_, _, rfl, run_takeDeferred hK2, ?_⟩⟩
    refine ⟨.int .i64 0, by simp [results, Try.f68, go_sem, hc9], rfl, ?_⟩
    exact Below.trans hX' (belowK_b (n₀ := w.heap.size) (w := w) (Nat.le_refl _) _ E _ (.deferred none) (by rw [hs0.out]; exact hsE) hK2 rfl rfl)
  case stop =>
    rintro D c pre W _ _ h _
    exact h.elim
end Go.Proofs.Ytpfelklhejpnnaa

/- galois.Invert. -/
namespace Go.Proofs.Ytpfelklhejpnnaa
open Go.RowKit
set_option linter.unusedVariables false
set_option linter.unusedSimpArgs false
attribute [local go_sem ↓] Go.wp_at_zero Go.wp_at_succ

theorem drop8 {w : World} {g n cap : Nat} {R : List Int} (h : Rd8 w (.slice (some ⟨g, 0, none⟩) (n + n) cap) R) (hl : R.length = n + n) :
    ∃ a' cap', (∀ w, (Instr.sliceAt 22 (.slice (some ⟨g, 0, none⟩) (n + n) cap) (some (.int .i64 (n : Int))) none none).run Try.prog w = .ok (.slice a' n cap') w) ∧ Rd8 w (.slice a' n cap') (R.drop n) := by
  unfold Rd8 at h
  rw [hl] at h
  obtain ⟨a', cap', r1, r2, -⟩ := cut_l (P := Try.prog) (t := 22) Try.underlying22 Try.sizeOf5 h n (n : Int) rfl (by omega)
  rw [show n + n - n = n by omega] at r1 r2
  refine ⟨a', cap', r1, ?_⟩
  unfold Rd8
  rw [show (R.drop n).length = n by rw [List.length_drop]; omega, show bs (R.drop n) = (bs R).drop (n * 1) from by rw [Nat.mul_one]; simp [bs, List.map_drop]]
  exact r2
theorem invF_take (M : List (List Int)) (n k : Nat) (hk : k < (redK (wideF M n) n).length) : (invF M n).take (k + 1) = (invF M n).take k ++ [((redK (wideF M n) n).getD k []).drop n] := by
  rw [List.take_add_one, show (invF M n)[k]? = some (((redK (wideF M n) n).getD k []).drop n) from by simp [invF, hk]]
  rfl
theorem invF_len {w : World} {B n : Nat} {v : Value} {g cp : Nat → Nat} {M : List (List Int)} {W : Nat} (h : GM w B v n W g cp (redK (wideF M n) n)) : (invF M n).length = n := by unfold invF; rw [List.length_map]; exact h.len
set_option maxRecDepth 100000 in
set_option maxHeartbeats 2000000 in
theorem invert_any (n : Nat) (h1 : 1 ≤ n) (h2 : n ≤ 64) (v : Value) (M : List (List Int)) (hl : M.length = n) (hw : Wide M n) (hb : ∀ l ∈ M, Bytes l) (hok : RedOK (wideF M n) n) (w : World) (hr : RL w v M) :
    Calls Try.prog 69 #[v] w fun e w' => ∃ v', e = .returned (.tuple #[v', .int .i64 0]) ∧ OL w' w.heap.size v' (invF M n) ∧ Ext w w' := by
  have hmx := isMatrix_any n h1 h2 v M hl hw w hr
  have hred := fun v W (h : RL W v (wideF M n)) => reduced_any n (n + n) n h1 h2 (by omega) (by omega) (Nat.le_refl _) (by omega) v (wideF M n) (wideF_len M n) (wideF_wide hl hw) (wideF_bytes hl hb) hok W h
  have hcat := fun v vs CS a b w h1 h2 h3 => concat8_any v vs CS a b w h1 h2 h3
  have hcl := fun v l (hl : l.length ≤ 900000) w h => clone_any v l hl w h
  obtain ⟨ad, cap, rfl, q1, q2⟩ := hr.shape
  rw [hl] at hr q1 hmx ⊢
  have hmk := mk_bytes n (by omega)
  replace hred := hidden hred
  replace hcat := hidden hcat
  replace hcl := hidden hcl
  replace hr := hidden hr
  replace hb := hidden hb
  replace hw := hidden hw
  replace hmx := hidden hmx
  clear hok
  go_enter Try.func69, Try.ntmps69
  go_wp2_with fail
  refine hmx.out.mono ?_
  rintro e w1 ⟨rfl, hX1⟩
  obtain ⟨b, off, a, c, rfl, cB, hrd⟩ := (hr.out.ext hX1).row 0 (by omega)
  rw [hw.out.at (by omega), Nat.add_zero] at cB
  have hn0 : (0 : Int) < (n : Int) := by omega
  replace hX1 := hidden hX1
  clear hrd hmx
  go_upto_region 8 with fail
  go_loopw [5, 26] (fun u i wr => ∃ k : Nat, i = .int .i64 (k : Int) ∧ k ≤ n ∧ Hid (OL wr w1.heap.size u ((wideF M n).take k)) ∧ Hid (Ext w1 wr)) (fun _ i _ => n - (intOf i).toNat)
  case atStart => exact ⟨0, rfl, by omega, hidden (OL.nil _ _), hidden (Ext.refl w1)⟩
  case round =>
    obtain ⟨k, rfl, hk, hO, hX⟩ := hrel
    have v1 : IntKind.i64.wrap ((k : Int) + 1) = (k : Int) + 1 := IntWalk.i64_in _ (by omega)
    obtain ⟨w3, hWW⟩ : ∃ X, X = wr := ⟨_, rfl⟩
    subst hWW
    by_cases hlt : k < n
    · have hlt2 : (k : Int) < (n : Int) := by omega
      obtain ⟨b', off', a1, c1, e, cR, hrd⟩ := (hr.out.ext (hX1.out.trans hX.out)).row k hlt
      simp only [Option.some.injEq, Addr.mk.injEq, and_true] at e
      obtain ⟨rfl, rfl⟩ := e
      have hrw := hw.out.at (show k < M.length by omega)
      have htk := wideF_take M n k hlt
      obtain ⟨l, hle⟩ : ∃ l, M.getD k [] = l := ⟨_, rfl⟩
      rw [hle] at cR hrd hrw htk
      rw [hrw] at cR hrd
      have hX3 : Hid (Ext w w3) := hidden (hX1.out.trans hX.out)
      have hmk3 := hmk w3
      have hoA : Own8 (w3.alloc (.cells (madeCells #[.int .u8 0] n) 5)) w3.heap.size (.slice (some ⟨w3.heap.size, 0, none⟩) n n) (List.replicate n 0) := own_bytes w3 n (by omega)
      have hXA : Ext w3 (w3.alloc (.cells (madeCells #[.int .u8 0] n) 5)) := (Ext.refl w3).alloc _
      go_upto_region 11 with fail
      clear hmk3
      obtain ⟨q, hq⟩ : ∃ q, w3.heap.size = q := ⟨_, rfl⟩
      obtain ⟨wA, hwA⟩ : ∃ W, w3.alloc (.cells (madeCells #[.int .u8 0] n) 5) = W := ⟨_, rfl⟩
      rw [hwA] at hoA hXA ⊢
      rw [hq] at hoA ⊢
      clear hwA
      have fz := hoA.frozen k
      have cz := hoA.rd.at k (by simp; exact hlt)
      rw [Nat.zero_add] at cz
      have hoB := unit_own hoA k
      have hXB : Ext w3 (wA.setCell ⟨q, k, none⟩ (.int .u8 1)) := Chg.ext ((Chg.of_ext [] hXA).setCell (Or.inr (by rw [hq]; exact Nat.le_refl _)) _)
      go_upto_region 12 with fail
      obtain ⟨wB, hwB⟩ : ∃ W, wA.setCell ⟨q, k, none⟩ (.int .u8 1) = W := ⟨_, rfl⟩
      rw [hwB] at hoB hXB ⊢
      clear hwB fz cz hoA hXA
      have hVS : Rd (wB.alloc (.cells #[.slice a1 n c1, .slice (some ⟨q, 0, none⟩) n n] 22)) 1 (.slice (some ⟨wB.heap.size, 0, none⟩) 2 2) 2 [.slice a1 n c1, .slice (some ⟨q, 0, none⟩) n n] := rd_of_blkS (Blk.new wB [.slice a1 n c1, .slice (some ⟨q, 0, none⟩) n n] 22) rfl (by omega)
      have hXC : Ext w3 (wB.alloc (.cells #[.slice a1 n c1, .slice (some ⟨q, 0, none⟩) n n] 22)) := hXB.alloc _
      have hRC : RdC (wB.alloc (.cells #[.slice a1 n c1, .slice (some ⟨q, 0, none⟩) n n] 22)) [.slice a1 n c1, .slice (some ⟨q, 0, none⟩) n n] [bs l, bs (unitR n k)] := ⟨rfl, fun i u C hu hC => by
        match i with
        | 0 => simp at hu hC; subst hu hC; have := hrd.ext hXC; unfold Rd8 at this; rw [bs_len]; exact this
        | 1 => simp at hu hC; subst hu hC; have := hoB.rd.ext ((Ext.refl wB).alloc (.cells #[.slice a1 n c1, .slice (some ⟨q, 0, none⟩) n n] 22)); unfold Rd8 at this; rw [bs_len]; exact this
        | i + 2 => simp at hu⟩
      have hfl : [bs l, bs (unitR n k)].flatten = bs (l ++ unitR n k) := by simp [bs_app]
      have hll : (l ++ unitR n k).length = n + n := by rw [List.length_append, hrw, unitR_len]
      have hcc := hcat.out (.slice (some ⟨wB.heap.size, 0, none⟩) 2 2) _ _ (by rw [hfl, bs_len, hll]; omega) (by simp) _ hVS hRC (fun C hC u hu => by
        simp at hC
        rcases hC with rfl | rfl <;> exact bs_one _ u hu)
      rw [hfl, bs_len] at hcc
      replace hcc := hidden hcc
      replace hXC := hidden hXC
      replace htk := hidden htk
      clear hoB hVS hRC hfl hrd hle hq hXB
      go_wp2_with fail
      refine hcc.out.mono ?_
      rintro e w4 ⟨v4, rfl, hO4, hX4⟩
      have hO5 : Own8 w4 (wB.alloc (.cells #[.slice a1 n c1, .slice (some ⟨q, 0, none⟩) n n] 22)).heap.size v4 (l ++ unitR n k) := by unfold Own8; exact hO4
      obtain ⟨ua, uc, rfl⟩ := rd8_one hO5.rd
      obtain ⟨dn, hdn⟩ : ∃ d, (l ++ unitR n k).length = d := ⟨_, rfl⟩
      rw [hdn] at hO5 hll ⊢
      have hLl := take_len (wideF_len M n) (show k ≤ n by omega)
      obtain ⟨L, hLe⟩ : ∃ L, (wideF M n).take k = L := ⟨_, rfl⟩
      rw [hLe] at hLl
      have hO6 : OL w3 w1.heap.size u5 L := hLe ▸ hO.out
      rw [hLe] at htk
      have hX34 : Ext w3 w4 := hXC.out.trans hX4
      have hO7 := hO6.ext (hX34.alloc (.cells #[.slice ua dn uc] 22))
      have hrd9 : Hid (Rd (w4.alloc (.cells #[.slice ua dn uc] 22)) 1 (.slice (some ⟨w4.heap.size, 0, none⟩) 1 1) 1 [.slice ua dn uc]) := hidden (rd_of_blkS (Blk.new w4 [.slice ua dn uc] 22) rfl (by omega))
      have hu := hO5.rd.ext ((Ext.refl w4).alloc (.cells #[.slice ua dn uc] 22))
      have hne : 0 < (l ++ unitR n k).length → ∀ g, u5.ownBlock = some g → (Value.slice ua dn uc).ownBlock ≠ some g := fun _ x hx hx2 => by
        have k1 := (hO6.lt hx).2
        have k2 := (own_lt hO5 hx2).1
        have k3 := hXC.out.size
        omega
      have hbz : w1.heap.size ≤ (w4.alloc (.cells #[.slice ua dn uc] 22)).heap.size := (hX.out.trans (hX34.alloc _)).size
      have hlt9 : ∀ y, u5.ownBlock = some y → w1.heap.size ≤ y := fun y hy => (hO6.lt hy).1
      have hX14 : Hid (Ext w1 (w4.alloc (.cells #[.slice ua dn uc] 22))) := hidden (hX.out.trans (hX34.alloc _))
      replace hO7 := hidden hO7
      replace hu := hidden hu
      replace hne := hidden hne
      replace hlt9 := hidden hlt9
      clear hO4 hO5 hO6 hO hX4 hX34 hcc hXC hll hdn
      go_wp2_with (at_builtin; refine wpList_append_row rfl _ _ rfl w1.heap.size u5 L rfl hO7.out (.slice ua dn uc) (l ++ unitR n k) hu.out hne.out (some ⟨w4.heap.size, 0, none⟩) 1 rfl hrd9.out (by omega) hbz ?_; intro v6 w6 hown hgrow hat)
      have hX6 : Ext w1 w6 := Chg.ext ((Chg.of_ext [] hX14.out).grown hgrow (fun y hy => Or.inr (hlt9.out y hy)))
      exact ⟨⟨k + 1, by go_num, by omega, hidden (by rw [htk.out]; exact hown), hidden hX6⟩, by simp [intOf]; omega⟩
    · have hke : k = n := by omega
      have hO2 := hO.out
      rw [hke, List.take_of_length_le (by rw [wideF_len]; omega)] at hO2
      have hk8 : decide ((k : Int) < (n : Int)) = false := decide_eq_false (by omega)
      have hrd := hred.out u5 w3 hO2.rl
      have hX3 : Hid (Ext w w3) := hidden (hX1.out.trans hX.out)
      have hz : ¬ (n : Int) < (n : Int) := by omega
      replace hrd := hidden hrd
      clear hO hO2 hX hX1 hred hcat hmk
      have hke2 := hke.symm
      clear hke
      subst hke2
      go_wp2_with fail
      refine hrd.out.mono ?_
      rintro e w4 ⟨v4, g, cp, rfl, hG, hX4⟩
      obtain ⟨ob, cv, rfl, hcv⟩ := own_some hG.own (by omega)
      have hX5 : Hid (Ext w w4) := hidden (hX3.out.trans hX4)
      replace hG := hidden hG
      clear hX4 hrd hX3
      go_upto_region 19 with fail
      go_loopw [10, 55] (fun u i wr => ∃ j : Nat, i = .int .i64 (j : Int) ∧ j ≤ n ∧ Hid (OL wr w4.heap.size u ((invF M n).take j)) ∧ Hid (Ext w4 wr)) (fun _ i _ => n - (intOf i).toNat)
      case atStart => exact ⟨0, rfl, by omega, hidden (OL.nil _ _), hidden (Ext.refl w4)⟩
      case round =>
        obtain ⟨j, rfl, hj, hO, hX⟩ := hrel
        have v9 : IntKind.i64.wrap ((j : Int) + 1) = (j : Int) + 1 := IntWalk.i64_in _ (by omega)
        obtain ⟨w6, hWW⟩ : ∃ X, X = wr := ⟨_, rfl⟩
        subst hWW
        by_cases hjn : j < n
        · have hjn2 : (j : Int) < (n : Int) := by omega
          have hG6 := hG.out.ext hX.out
          have cr := hG6.cell hjn
          have hrow := (hG6.rows j hjn).rd
          unfold RV at hrow
          obtain ⟨a', c', hcut, hR⟩ := drop8 hrow (hG6.wid j hjn)
          have htk := invF_take M n j (by rw [hG6.len]; exact hjn)
          have hlD : (((redK (wideF M n) n).getD j []).drop n).length = n := by rw [List.length_drop, hG6.wid j hjn]; omega
          have hLl := take_len (invF_len hG6) (show j ≤ n by omega)
          obtain ⟨D, hD⟩ : ∃ D, ((redK (wideF M n) n).getD j []).drop n = D := ⟨_, rfl⟩
          rw [hD] at hR htk hlD
          have hc1 := hcl.out _ D (by omega) w6 hR
          obtain ⟨L, hLe⟩ : ∃ L, (invF M n).take j = L := ⟨_, rfl⟩
          have hO6 : OL w6 w4.heap.size u10 L := hLe ▸ hO.out
          rw [hLe] at hLl htk
          replace hc1 := hidden hc1
          replace htk := hidden htk
          clear hG6 hrow hR hD hO hLe
          go_wp2_with fail
          refine hc1.out.mono ?_
          rintro e w7 ⟨v7, rfl, hO7, hX7⟩
          obtain ⟨ua, uc, rfl⟩ := rd8_one hO7.rd
          rw [hlD] at hO7 ⊢
          have hO8 := hO6.ext (hX7.alloc (.cells #[.slice ua n uc] 22))
          have hrd9 : Hid (Rd (w7.alloc (.cells #[.slice ua n uc] 22)) 1 (.slice (some ⟨w7.heap.size, 0, none⟩) 1 1) 1 [.slice ua n uc]) := hidden (rd_of_blkS (Blk.new w7 [.slice ua n uc] 22) rfl (by omega))
          have hu := hO7.rd.ext ((Ext.refl w7).alloc (.cells #[.slice ua n uc] 22))
          have hne : 0 < D.length → ∀ g, u10.ownBlock = some g → (Value.slice ua n uc).ownBlock ≠ some g := fun _ x hx hx2 => by
            have k1 := (hO6.lt hx).2
            have k2 := (own_lt hO7 hx2).1
            omega
          have hbz : w4.heap.size ≤ (w7.alloc (.cells #[.slice ua n uc] 22)).heap.size := (hX.out.trans (hX7.alloc _)).size
          have hlt9 : ∀ y, u10.ownBlock = some y → w4.heap.size ≤ y := fun y hy => (hO6.lt hy).1
          have hX14 : Hid (Ext w4 (w7.alloc (.cells #[.slice ua n uc] 22))) := hidden (hX.out.trans (hX7.alloc _))
          replace hO8 := hidden hO8
          replace hu := hidden hu
          replace hne := hidden hne
          replace hlt9 := hidden hlt9
          clear hO7 hO6 hX7 hc1
          go_wp2_with (at_builtin; refine wpList_append_row rfl _ _ rfl w4.heap.size u10 L rfl hO8.out (.slice ua n uc) D hu.out hne.out (some ⟨w7.heap.size, 0, none⟩) 1 rfl hrd9.out (by omega) hbz ?_; intro v8 w8 hown hgrow hat)
          have hX8 : Ext w4 w8 := Chg.ext ((Chg.of_ext [] hX14.out).grown hgrow (fun y hy => Or.inr (hlt9.out y hy)))
          exact ⟨⟨j + 1, by go_num, by omega, hidden (by rw [htk.out]; exact hown), hidden hX8⟩, by simp [intOf]; omega⟩
        · have hje : j = n := by omega
          have hO2 := hO.out
          rw [hje, List.take_of_length_le (by rw [invF_len hG.out]; omega)] at hO2
          have hk9 : decide ((j : Int) < (n : Int)) = false := decide_eq_false (by omega)
          replace hO2 := hidden hO2
          have hXf : Hid (Ext w w6) := hidden (hX5.out.trans hX.out)
          clear hO hje
          go_wp2_with fail
          refine bodyPost_ret (results_tmp2 rfl _ _ _) rfl ?_
          exact ⟨_, rfl, hO2.out.base hX5.out.size, hXf.out⟩
end Go.Proofs.Ytpfelklhejpnnaa
