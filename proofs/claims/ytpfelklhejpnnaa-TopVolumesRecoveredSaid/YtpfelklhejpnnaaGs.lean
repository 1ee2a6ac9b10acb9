/- Layer 3: Values, absorb, Update, Sum. -/
import Derived.Test.YtpfelklhejpnnaaGd
import Derived.Test.YtpfelklhejpnnaaGn
import Derived.Test.YtpfelklhejpnnaaHaa
import Derived.Deep.RegionLaw
namespace Go.Proofs.Ytpfelklhejpnnaa
open Go.RowKit Go.Shelf
set_option linter.unusedVariables false
set_option linter.unusedSimpArgs false
attribute [local go_sem] Oper.semAt_some

def encV {n : Nat} (D : List Int) (x : Fin n) : Array Value := #[.int .u8 (D.getD x.val 0)]
theorem values_any (v : Value) (w : World) (ad : Option Addr) (n cap : Nat) (hv : v = .slice ad n cap) :
    Calls Try.prog 44 #[v] w fun e w' =>
      e = .returned (.func (.func 59) #[] #[.pointer (some ⟨w.heap.size, 0, none⟩)]) ∧ w' = w.alloc (.cells #[v] 22) := by
  subst hv
  go_enter Try.func44, Try.ntmps44
  go_wp2_with fail
  go_ret
  exact ⟨rfl, rfl⟩
set_option maxRecDepth 100000 in
set_option maxHeartbeats 2000000 in
theorem values1_in (m : Nat) (hm : 2 ≤ m) (l B0 n cap : Nat) (ad : Option Addr) (D : List Int) (hDn : D.length = n) (hn : n ≤ 100000) (S : List Nat) (hS0 : B0 ∈ S) (hSv : 0 < n → ∀ g, (Value.slice ad n cap).ownBlock = some g → g ∈ S)
    (J Jx : List (Fin n) → World → Prop) (W : World) (hJ : AbidesFrom W.heap.size J) (hlt : ∀ z ∈ S, z < W.heap.size)
    (hY : ∀ pre z W1, J pre W1 → pre.length < n → YieldAt Fence.wide (m - 1) Try.prog l (encV D z) W1 fun e W' =>
      (e = .returned (.bool true) ∧ J (pre ++ [z]) W' ∧ (KeepS S W1 W' ∧ W1.heap.size ≤ W'.heap.size)) ∨ (e = .returned (.bool false) ∧ Jx (pre ++ [z]) W'))
    (b0 : Blk W B0 22 [.slice ad n cap]) (hR : Rd W 1 (.slice ad n cap) n (bs D)) (h0 : J [] W) :
    CallsIn Fence.wide m Try.prog 59 #[.func (.yield l) #[] #[], .pointer (some ⟨B0, 0, none⟩)] W fun e W' => (∃ v, e = .returned v) ∧
      ((∃ ys, ys = List.finRange n ∧ J ys W') ∨ (∃ pre, (∃ k, k ≤ n ∧ pre = upF n k) ∧ Jx pre W')) := by
  refine callsIn_of_wp Try.func59 rfl trivial ?_ rfl
  simp only [Try.ntmps59, List.size_toArray, List.length_cons, List.length_nil, Nat.reduceAdd, Nat.reduceSub, Array.replicate_succ, Array.replicate_zero, List.push_toArray, List.append_toArray, List.nil_append, List.cons_append]
  have c0 := b0.cell 0 _ rfl
  have hm1 : 1 ≤ m := by omega
  have hm2 : 1 ≤ m - 1 := by omega
  replace hDn := hidden hDn
  gi_wp2
  clear c0
  gi_loopw [7] (fun i wr => ∃ k : Nat, k ≤ n ∧ i = .int .i64 (k : Int) ∧ J (upF n k) wr ∧ KeepS S W wr ∧ W.heap.size ≤ wr.heap.size)
    (fun i _ => n - (intOf i).toNat)
  case atStart => exact ⟨0, Nat.zero_le _, by go_num, h0, KeepS.refl _ _, Nat.le_refl _⟩
  case round =>
    obtain ⟨k, hk, rfl, hJs, hK, hsz⟩ := hrel
    by_cases hlt' : k < n
    · have k1 : (k : Int) < (n : Int) := by omega
      have v1 : IntKind.i64.wrap ((k : Int) + 1) = (k : Int) + 1 := IntWalk.i64_in _ (by omega)
      have hRk := hR.keep hK hSv hsz
      obtain ⟨bb, off, rfl, -, hcell⟩ := hRk.cells (by omega)
      have cB := hcell k (by rw [bs_len, hDn.out]; exact hlt')
      rw [bs_get _ _ (by rw [hDn.out]; exact hlt')] at cB
      clear hcell hRk
      obtain ⟨fn, tmps, assign, body, hy, hR'⟩ := hY _ ⟨k, hlt'⟩ wr hJs (by rw [upF_len hk]; exact hlt')
      unfold encV at hy
      dsimp only at hy
      obtain ⟨y, hye⟩ : ∃ y, D.getD k 0 = y := ⟨_, rfl⟩
      rw [hye] at hy cB
      replace hye := hidden hye
      have key : ∀ (e : Ending) (W' : World), (e = .returned (.bool true) ∧ J (upF n k ++ [⟨k, hlt'⟩]) W' ∧ KeepS S wr W' ∧ wr.heap.size ≤ W'.heap.size ∨ e = .returned (.bool false) ∧ Jx (upF n k ++ [⟨k, hlt'⟩]) W') →
          (e = .returned (.bool true) ∧ Hid (J (upF n (k + 1)) W' ∧ KeepS S W W' ∧ W.heap.size ≤ W'.heap.size)) ∨ (e = .returned (.bool false) ∧ Hid (Jx (upF n (k + 1)) W')) := by
        intro e W' h
        rw [upF_succ hlt']
        rcases h with ⟨h1, h2, h3, h4⟩ | ⟨h1, h2⟩
        · exact Or.inl ⟨h1, h2, hK.trans h3, by omega⟩
        · exact Or.inr ⟨h1, h2⟩
      replace key := hidden key
      replace hK := hidden hK
      gi_wp2
      refine hR'.mono ?_
      intro e W3 h3
      rcases key.out e W3 h3 with ⟨rfl, h4⟩ | ⟨rfl, h4⟩
      · gi_wp2
        go_roundw
        case rel => exact ⟨k + 1, by omega, by go_num, h4.out.1, h4.out.2.1, h4.out.2.2⟩
        case measure => simp [intOf]; omega
      · gi_wp2
        refine ⟨rfl, _, results_none rfl _ _ _, ?_⟩
        exact ⟨⟨_, rfl⟩, .inr ⟨_, ⟨k + 1, by omega, rfl⟩, h4.out⟩⟩
    · have k1 : ¬ (k : Int) < (n : Int) := by omega
      have k2 : k = n := by omega
      have hJn : J (List.finRange n) wr := by rw [← upF_all]; rw [k2] at hJs; exact hJs
      replace k2 := hidden k2
      refine wpIn_wide.2 ?_
      go_wp2_with fail
      refine ⟨rfl, _, results_none rfl _ _ _, ?_⟩
      exact ⟨⟨_, rfl⟩, .inl hJn⟩
theorem values_stops (m : Nat) (hm : 2 ≤ m) (B0 n cap : Nat) (ad : Option Addr) (D : List Int) (hDn : D.length = n) (hn : n ≤ 100000) (S : List Nat) (hS0 : B0 ∈ S) (hSv : 0 < n → ∀ g, (Value.slice ad n cap).ownBlock = some g → g ∈ S)
    (w : World) (hlt : ∀ z ∈ S, z < w.heap.size) (b0 : Blk w B0 22 [.slice ad n cap]) (hR : Rd w 1 (.slice ad n cap) n (bs D)) :
    SeqStopsK Fence.wide m Try.prog 59 #[.pointer (some ⟨B0, 0, none⟩)] (encV (n := n) D) (fun A B => KeepS S A B ∧ A.heap.size ≤ B.heap.size) (fun ys => ys = List.finRange n) (fun pre => ∃ k, k ≤ n ∧ pre = upF n k) n w :=
  fun l J Jx W hW hJ hJx hY h0 =>
    have hE : Ext w W := hW
    values1_in m hm l B0 n cap ad D hDn hn S hS0 hSv J Jx W hJ (fun z hz => Nat.lt_of_lt_of_le (hlt z hz) hE.size) hY (b0.ext hE) (Rd.ext hR hE) h0

/-- The register behind some of the bytes. -/
def rgF {n : Nat} (r : Nat) (D : List Int) (pre : List (Fin n)) : Nat := Crc.run r (pre.map fun x => (D.getD x.val 0).toNat)
theorem rgF_snoc {n : Nat} (r : Nat) (D : List Int) (pre : List (Fin n)) (x : Fin n) : rgF r D (pre ++ [x]) = Crc.reg (rgF r D pre) (D.getD x.val 0).toNat := by
  unfold rgF; rw [List.map_append]; exact Crc.run_snoc _ _ _
theorem rgF_lt {n : Nat} {r : Nat} (hr : r < 4294967296) {D : List Int} (hD : Bytes D) (hn : D.length = n) (pre : List (Fin n)) : rgF r D pre < 4294967296 := by
  refine Crc.run_lt _ hr fun x hx => ?_
  obtain ⟨y, -, rfl⟩ := List.mem_map.1 hx
  have := hD.get y.val (by have := y.isLt; omega)
  omega
theorem rgF_all {n : Nat} (r : Nat) (D : List Int) (hn : D.length = n) : rgF r D (List.finRange n) = Crc.run r (nl D) := by
  unfold rgF nl
  congr 1
  refine List.ext_getElem (by simp [hn]) fun i h1 h2 => ?_
  have hi : i < D.length := by simpa using h2
  simp [List.getD, hi]
def AbsP (w : World) (r : Nat) (e : Ending) (w' : World) : Prop := e = .returned (.int .u32 (r : Int)) ∧ Ext w w'
set_option maxRecDepth 100000 in
set_option maxHeartbeats 4000000 in
theorem absorb_any (r0 : Nat) (hr0 : r0 < 4294967296) (D : List Int) (B0 n cap : Nat) (ad : Option Addr) (hb : Bytes D) (hne : D.length = n) (hn : n ≤ 100000) (w : World) (hr : Rd8 w (.slice ad n cap) D) (hB0 : Blk w B0 22 [.slice ad n cap]) :
    Calls Try.prog 43 #[.int .u32 (r0 : Int), .func (.func 59) #[] #[.pointer (some ⟨B0, 0, none⟩)]] w (AbsP w (Crc.run r0 (nl D))) := by
  have hT := table_any (w.alloc (.cells #[.int .u32 (r0 : Int)] 44))
  have b0 := Blk.new w [.int .u32 (r0 : Int)] 44
  replace hb := hidden hb
  replace hne := hidden hne
  replace hT := hidden hT
  refine (callsIn_wide (n := 6)).1 ?_
  refine callsIn_of_wp_marks Try.func43 rfl trivial ?_ rfl
  simp only [Try.ntmps43, List.size_toArray, List.length_cons, List.length_nil, Nat.reduceAdd, Nat.reduceSub, Array.replicate_succ, Array.replicate_zero, List.push_toArray, List.append_toArray, List.nil_append, List.cons_append]
  refine wpIn_wide.2 ?_
  go_wp2_with fail
  refine hT.out.mono ?_
  rintro e w1 ⟨rfl, hX1⟩
  have hX1' : Ext w w1 := hX1.past
  have b1 := b0.ext hX1
  obtain ⟨s, hs⟩ : ∃ s, w.heap.size = s := ⟨_, rfl⟩
  rw [hs] at b1
  have hs1 : s < w1.heap.size := b1.lt
  obtain ⟨ST, hST⟩ : ∃ x, (uv (tcL 256)).toArray = x := ⟨_, rfl⟩
  have hsz : ST.size = 256 := by rw [← hST, List.size_toArray, uv_len, tcL_len]
  have hi55 : (Try.prog.info? 101).map (·.size) = some 256 := by kernel_rfl
  have h1c : ST.all (·.oneCell') = true := by rw [← hST]; simp [uv, Value.oneCell']
  have hz0 : (w1.alloc (.cells Try.zeroCells101 101)).heap[w1.heap.size]? = some (.cells Try.zeroCells101 101 (0, 0)) := heap_alloc_new w1 _
  have hzs : Try.zeroCells101.size = ST.size := by rw [hsz]; exact Try.zeroCells101_size
  have hX2 : Ext w1 ((w1.alloc (.cells Try.zeroCells101 101)).setRow w1.heap.size ST) := below_setRow ((Ext.refl w1).alloc _) (Nat.le_refl _) _
  have hG2 : Blk ((w1.alloc (.cells Try.zeroCells101 101)).setRow w1.heap.size ST) w1.heap.size 101 (uv (tcL 256)) := by
    unfold Blk
    rw [hST]
    exact setRow_heap _ w1.heap.size _ _ 101 _ hz0
  have b2 := b1.ext hX2
  have hss : ((w1.alloc (.cells Try.zeroCells101 101)).setRow w1.heap.size ST).heap.size = w1.heap.size + 1 := by rw [size_setRow, World.size_alloc]
  have hX3 := hX1'.trans hX2
  rw [hST, hs]
  replace hsz := hidden hsz
  replace hs := hidden hs
  replace hST := hidden hST
  replace hG2 := hidden hG2
  replace b2 := hidden b2
  replace hX3 := hidden hX3
  clear hX1 hX1' b1 b0 hX2
  go_wp2_with (refine wpList_store_row rfl 101 (.tmp 5) (.tmp 7) rfl w1.heap.size ST rfl rfl 101 _ hz0 (by rw [hsz.out]; exact hi55) hzs h1c ?_)
  -- THE LOOP
  obtain ⟨W2, hW2⟩ : ∃ X, (w1.alloc (.cells Try.zeroCells101 101)).setRow w1.heap.size ST = X := ⟨_, rfl⟩
  rw [hW2] at hG2 b2 hX3 hss ⊢
  clear hW2 hz0 hzs h1c hi55
  obtain ⟨g1, hg1⟩ : ∃ g, w1.heap.size = g := ⟨_, rfl⟩
  rw [hg1] at hG2 hss hs1 ⊢
  replace hg1 := hidden hg1
  have e0 := hB0.ext hX3.out
  have e6 : Rd8 W2 (.slice ad n cap) D := Rd.ext hr hX3.out
  have hRd : Rd W2 1 (.slice ad n cap) n (bs D) := by have := e6; unfold Rd8 at this; rw [hne.out] at this; exact this
  have hB0s : B0 < w.heap.size := hB0.lt
  have hlt : ∀ z ∈ ([B0] ++ dataS (.slice ad n cap) n), z < W2.heap.size := by
    intro z hz
    rcases List.mem_append.1 hz with hz | hz
    · simp at hz; have := e0.lt; omega
    · have h8 := dataS_lt (v := .slice ad n cap) (D := D) e6
      rw [hne.out] at h8
      exact h8 z hz
  have hnd : ∀ z ∈ ([B0] ++ dataS (.slice ad n cap) n), z ≠ s := by
    intro z hz
    rcases List.mem_append.1 hz with hz | hz
    · simp at hz; have := hs.out; omega
    · have h8 := dataS_lt (v := .slice ad n cap) (D := D) (by rw [← hne.out]; exact (by rw [hne.out]; exact hr))
      rw [hne.out] at h8
      have := h8 z hz
      have := hs.out
      omega
  have e1 : Blk W2 s 44 [.int .u32 (rgF (n := n) r0 D [] : Int)] := b2.out
  have hszg : g1 + 1 ≤ W2.heap.size := by omega
  replace hss := hidden hss
  rename_i KK hKK
  refine (wpIn_wide (n := 6)).1 ?_
  refine wpIn_rangeFunc_ownG rfl (by omega) (gf := 59) (lb := #[.pointer (some ⟨B0, 0, none⟩)]) rfl trivial (enters_of Try.func59 (by kernel_rfl) rfl)
    (values_stops 5 (by omega) B0 n cap ad D hne.out hn ([B0] ++ dataS (.slice ad n cap) n) (by simp) (fun hn g hg => by simp [dataS, hn, hg]) W2 hlt e0 hRd) keepz_t (keepz_b hlt) (Below.refl _ _) (fun _ => rfl)
    (fun pre W => (Blk W s 44 [.int .u32 (rgF r0 D pre : Int)] ∧ Blk W g1 101 (uv (tcL 256))) ∧ Below w.heap.size w W)
    (fun _ _ _ => False)
    (OwnFrom.and (OwnFrom.and (Own.from (blk_own _ _ (fun pre => [.int .u32 (rgF r0 D pre : Int)])) _) (Own.from (blk_own _ _ (fun _ => uv (tcL 256))) _)) (ownFrom_below (Nat.le_refl _) (by rw [hs.out]; omega)))
    (fun _ _ _ _ _ hs _ _ => hs)
    ⟨⟨e1, hG2.out⟩, hX3.out⟩
    (fun x => { tmps := #[.int .u32 (r0 : Int), .func (.func 59) #[] #[.pointer (some ⟨B0, 0, none⟩)], .pointer (some ⟨s, 0, none⟩), undef, .int .u32 0, .pointer (some ⟨g1, 0, none⟩), .int .u8 (D.getD x.val 0), .agg ST, .func (.func 59) #[] #[.pointer (some ⟨B0, 0, none⟩)], .int .u8 (D.getD x.val 0), undef, undef, undef, undef, undef, undef, undef, undef, undef, undef], defers := [] }) ?assign ?body ?done ?stop
  case assign =>
    intro l x W K hK
    unfold encV
    obtain ⟨y, hy⟩ : ∃ y, D.getD x.val 0 = y := ⟨_, rfl⟩
    rw [hy] at hK ⊢
    clear hy
    gi_wp2
    exact hK
  case body =>
    rintro l pre x W ⟨⟨b1, b3⟩, hB⟩ hlen
    clear e0 e1 e6 hRd
    have hx := x.isLt
    have hsn := rgF_snoc r0 D pre x
    have hrl := rgF_lt hr0 hb.out hne.out pre
    have hrl2 := rgF_lt hr0 hb.out hne.out (pre ++ [x])
    have hyb := hb.out.get x.val (by rw [hne.out]; omega)
    obtain ⟨z, hz⟩ : ∃ z : Nat, D.getD x.val 0 = (z : Int) := ⟨_, (Int.eq_ofNat_of_zero_le hyb.1).choose_spec⟩
    rw [hz, Int.toNat_natCast] at hsn
    rw [hz] at hyb ⊢
    have hz2 : z < 256 := by omega
    obtain ⟨r, hre⟩ : ∃ r, rgF r0 D pre = r := ⟨_, rfl⟩
    rw [hre] at hsn hrl b1
    rw [Crc.reg_table] at hsn
    obtain ⟨r2, hr2⟩ : ∃ r2, rgF r0 D (pre ++ [x]) = r2 := ⟨_, rfl⟩
    rw [hr2] at hsn hrl2
    obtain ⟨q8, hq8⟩ : ∃ q, r / 256 = q := ⟨_, rfl⟩
    obtain ⟨m8, hm8⟩ : ∃ q, r % 256 = q := ⟨_, rfl⟩
    rw [hq8, hm8] at hsn
    obtain ⟨x8, hx8⟩ : ∃ q, m8 ^^^ z = q := ⟨_, rfl⟩
    rw [hx8] at hsn
    have hx9 : x8 < 256 := by rw [← hx8]; exact Gf.xor_lt (by omega) hz2
    have htv := Crc.csN_lt 8 (r := x8) (by omega)
    have c2 := b3.cell x8 _ (uv_get _ x8 (by rw [tcL_len]; exact hx9))
    rw [tcL_get _ _ hx9, show tcK 256 x8 = (Crc.csN 8 x8 : Int) from if_pos hx9] at c2
    obtain ⟨tv, htve⟩ : ∃ t, Crc.csN 8 x8 = t := ⟨_, rfl⟩
    rw [htve] at c2 hsn htv
    have c1 := b1.cell 0 _ rfl
    have f1 := b1.frozen 0
    have v1 : (r : Int) / 256 = (q8 : Int) := by omega
    have v2 : (r : Int).tdiv 256 = (q8 : Int) := by rw [Int.tdiv_eq_ediv_of_nonneg (by omega)]; omega
    have v3 : IntKind.u8.wrap (r : Int) = (m8 : Int) := by rw [IntKind.wrap_u8]; omega
    have v4 := bits_xor8 m8 z (by omega) hz2
    rw [hx8] at v4
    have v5 := xor32 q8 tv (by omega) htv
    rw [← hsn] at v5
    have x1 : (x8 : Int) < 256 := by omega
    have hb1 := b1.drew.set 0 (.int .u32 (r2 : Int))
    have hb3 := b3.drew.set_other (i := 0) (c := s) (by omega) (.int .u32 (r2 : Int))
    have hBs := hB.drew.setCell (p := ⟨s, 0, none⟩) (show w.heap.size ≤ s by rw [hs.out]; exact Nat.le_refl _) (.int .u32 (r2 : Int))
    replace hr2 := hidden hr2
    replace hb1 := hidden hb1
    replace hb3 := hidden hb3
    replace hBs := hidden hBs
    clear hyb hz hre hq8 hm8 hx8 htve hsn hrl hrl2 htv b1 b3 hB hlen
    gi_wp2
    refine wpIn_round_D (S := fun w' : World => w'.cell? ⟨s, 0, none⟩ = some (.int .u32 (r : Int)) ∧ w'.cell? ⟨g1, x8, none⟩ = some (.int .u32 (tv : Int))) (D := [9]) (by kernel_rfl) (fun ⟨_, _, h⟩ => (show False from h)) (by kernel_rfl) ⟨c1, c2⟩ ?_
    intro HS
    refine takeD 0 [1, 8, 9] (.int .u32 (r : Int)) rfl rfl (by kernel_rfl) (by kernel_rfl) (by kernel_rfl) (by kernel_rfl) (by decide) (by decide) (fun _ _ _ h => h) (by rfl) (fun w' hw' => by obtain ⟨s1, s2⟩ := hw'; go_simp) HS ?_
    try simp only [List.setIfInBounds_toArray, List.set_cons_zero, List.set_cons_succ]
    refine takeD 1 [8, 9] (.int .u32 (q8 : Int)) rfl rfl (by kernel_rfl) (by kernel_rfl) (by kernel_rfl) (by kernel_rfl) (by decide) (by decide) (fun _ _ _ h => h) (by rfl) (fun w' hw' => by obtain ⟨s1, s2⟩ := hw'; go_simp) HS ?_
    try simp only [List.setIfInBounds_toArray, List.set_cons_zero, List.set_cons_succ]
    refine takeD 2 [3, 5, 6, 7, 8, 9] (.int .u32 (r : Int)) rfl rfl (by kernel_rfl) (by kernel_rfl) (by kernel_rfl) (by kernel_rfl) (by decide) (by decide) (fun _ _ _ h => h) (by rfl) (fun w' hw' => by obtain ⟨s1, s2⟩ := hw'; go_simp) HS ?_
    try simp only [List.setIfInBounds_toArray, List.set_cons_zero, List.set_cons_succ]
    refine takeD 3 [5, 6, 7, 8, 9] (.int .u8 (m8 : Int)) rfl rfl (by kernel_rfl) (by kernel_rfl) (by kernel_rfl) (by kernel_rfl) (by decide) (by decide) (fun _ _ _ h => h) (by rfl) (fun w' hw' => by obtain ⟨s1, s2⟩ := hw'; go_simp) HS ?_
    try simp only [List.setIfInBounds_toArray, List.set_cons_zero, List.set_cons_succ]
    refine takeD 4 [5, 6, 7, 8, 9] (.int .u8 (z : Int)) rfl rfl (by kernel_rfl) (by kernel_rfl) (by kernel_rfl) (by kernel_rfl) (by decide) (by decide) (fun _ _ _ h => h) (by rfl) (fun w' hw' => by obtain ⟨s1, s2⟩ := hw'; go_simp) HS ?_
    try simp only [List.setIfInBounds_toArray, List.set_cons_zero, List.set_cons_succ]
    refine takeD 5 [6, 7, 8, 9] (.int .u8 (x8 : Int)) rfl rfl (by kernel_rfl) (by kernel_rfl) (by kernel_rfl) (by kernel_rfl) (by decide) (by decide) (fun _ _ _ h => h) (by rfl) (fun w' hw' => by obtain ⟨s1, s2⟩ := hw'; go_simp) HS ?_
    try simp only [List.setIfInBounds_toArray, List.set_cons_zero, List.set_cons_succ]
    refine takeD 6 [7, 8, 9] (.pointer (some ⟨g1, x8, none⟩)) rfl rfl (by kernel_rfl) (by kernel_rfl) (by kernel_rfl) (by kernel_rfl) (by decide) (by decide) (fun _ _ _ h => h) (by rfl) (fun w' hw' => by obtain ⟨s1, s2⟩ := hw'; go_simp) HS ?_
    try simp only [List.setIfInBounds_toArray, List.set_cons_zero, List.set_cons_succ]
    refine takeD 7 [8, 9] (.int .u32 (tv : Int)) rfl rfl (by kernel_rfl) (by kernel_rfl) (by kernel_rfl) (by kernel_rfl) (by decide) (by decide) (fun _ _ _ h => h) (by rfl) (fun w' hw' => by obtain ⟨s1, s2⟩ := hw'; go_simp) HS ?_
    try simp only [List.setIfInBounds_toArray, List.set_cons_zero, List.set_cons_succ]
    refine takeD 8 [9] (.int .u32 (r2 : Int)) rfl rfl (by kernel_rfl) (by kernel_rfl) (by kernel_rfl) (by kernel_rfl) (by decide) (by decide) (fun _ _ _ h => h) (by rfl) (fun w' hw' => by obtain ⟨s1, s2⟩ := hw'; go_simp) HS ?_
    try simp only [List.setIfInBounds_toArray, List.set_cons_zero, List.set_cons_succ]
    refine storeD 9 rfl rfl (by kernel_rfl) (by rfl) (w' := W.drew.setCell ⟨s, 0, none⟩ (.int .u32 (r2 : Int))) (by go_simp) (fun h => absurd (by simp) h) ?_
    refine wpAnyD_done (by kernel_rfl) ?_ _
    show KeepsFrom _ _ _ ∧ _ ∧ _
    refine ⟨((KeepsOthers.drew _).trans (KeepsOthers.setCell _ _ _)).from _, ⟨fun y hy => Below.heap_setCell _ _ _ _ (hnd y hy), by simp⟩, ⟨?_, hb3.out⟩, hBs.out⟩
    rw [hr2.out]
    exact hb1.out
  case done =>
    rintro E ys W hD rfl ⟨⟨b1, b3⟩, hB⟩ hK
    rw [rgF_all r0 D hne.out] at b1
    have c1 := b1.cell 0 _ rfl
    go_wp2_with fail
    refine ⟨by simp, .inl ⟨_, _, rfl, run_takeDeferred hK, ?_⟩⟩
    refine ⟨.int .u32 (Crc.run r0 (nl D) : Int), by simp [results, Try.f43, go_sem], rfl, ?_⟩
    exact hB.trans (belowK_b (n₀ := w.heap.size) (w := w) (Nat.le_refl _) W E _ (.deferred none) (by rw [hs.out]; omega) hK rfl rfl)
  case stop =>
    rintro D c pre W _ _ h _
    exact h.elim
theorem not32 (r : Nat) (h : r < 4294967296) : bits .xor .u32 IntKind.u32.max (r : Int) = (Crc.nt r : Int) := by
  have h1 := xor32 4294967295 r (by decide) h
  have h2 := nat_xor_and 4294967295 r
  have h3 : 4294967295 &&& r = r := by
    rw [Nat.and_comm, show (4294967295 : Nat) = 2 ^ 32 - 1 from rfl, Nat.and_two_pow_sub_one_eq_mod, Nat.mod_eq_of_lt h]
  rw [h3] at h2
  have h4 : 4294967295 ^^^ r = Crc.nt r := by unfold Crc.nt; omega
  rw [h4] at h1
  exact h1
set_option maxRecDepth 100000 in
theorem update_any (v : Value) (D : List Int) (r0 : Nat) (hr0 : r0 < 4294967296) (hb : Bytes D) (hn : D.length ≤ 100000) (w : World) (hr : Rd8 w v D) :
    Calls Try.prog 29 #[.int .u32 (r0 : Int), v] w (AbsP w (Crc.upd r0 (nl D))) := by
  obtain ⟨n, hne⟩ : ∃ n, D.length = n := ⟨_, rfl⟩
  obtain ⟨ad, cap, rfl, q1, q2, q3⟩ := Rd.shape hr
  rw [hne] at q1 hn hr ⊢
  have hX0 : Ext w (w.alloc (.cells #[.slice ad n cap] 22)) := (Ext.refl w).alloc _
  have ha := absorb_any (Crc.nt r0) (Crc.nt_lt _) D w.heap.size n cap ad hb hne hn (w.alloc (.cells #[.slice ad n cap] 22)) (Rd.ext hr hX0) (Blk.new w [.slice ad n cap] 22)
  have hrl := Crc.run_lt (nl D) (Crc.nt_lt r0) (fun x hx => by
    obtain ⟨y, hy, rfl⟩ := List.mem_map.1 hx
    have := hb y hy
    omega)
  have n1 := not32 r0 hr0
  have n2 := not32 _ hrl
  have hu : Crc.upd r0 (nl D) = Crc.nt (Crc.run (Crc.nt r0) (nl D)) := rfl
  rw [hu]
  obtain ⟨R, hR⟩ : ∃ R, Crc.run (Crc.nt r0) (nl D) = R := ⟨_, rfl⟩
  rw [hR] at ha n2 ⊢
  obtain ⟨R2, hR2⟩ : ∃ R2, Crc.nt R = R2 := ⟨_, rfl⟩
  rw [hR2] at n2 ⊢
  obtain ⟨R3, hR3⟩ : ∃ R3, Crc.nt r0 = R3 := ⟨_, rfl⟩
  rw [hR3] at n1 ha
  replace ha := hidden ha
  clear hu hR hR2 hR3 hr
  go_enter Try.func29, Try.ntmps29
  go_wp2_with (go_at_call 44; refine (values_any _ _ ad n cap rfl).mono ?_; rintro e w2 ⟨rfl, rfl⟩)
  refine ha.out.mono ?_
  rintro e w3 ⟨rfl, hX⟩
  go_wp2_with fail
  go_ret
  exact ⟨rfl, hX0.trans hX⟩
theorem sum_any (v : Value) (D : List Int) (hb : Bytes D) (hn : D.length ≤ 100000) (w : World) (hr : Rd8 w v D) :
    Calls Try.prog 15 #[v] w (AbsP w (sumI D)) := by
  obtain ⟨ad, cap, rfl, q1, q2, q3⟩ := Rd.shape hr
  have hu := update_any _ D 0 (by decide) hb hn w hr
  obtain ⟨n, hne⟩ : ∃ n, D.length = n := ⟨_, rfl⟩
  rw [hne] at hu q1 ⊢
  replace hu := hidden hu
  clear hr
  go_enter Try.func15, Try.ntmps15
  go_wp2_with fail
  refine hu.out.mono ?_
  rintro e w3 ⟨rfl, hX⟩
  go_wp2_with fail
  go_ret
  exact ⟨rfl, hX⟩
end Go.Proofs.Ytpfelklhejpnnaa

/- galois.Cauchy. -/
namespace Go.Proofs.Ytpfelklhejpnnaa
open Go.RowKit
set_option linter.unusedVariables false
set_option linter.unusedSimpArgs false
attribute [local go_sem ↓] Go.wp_at_zero Go.wp_at_succ

/-- A row of the matrix. -/
def cauR (r c i : Nat) : List Int := (List.range c).map fun k => ((Gf.inv (i ^^^ (r + k)) : Nat) : Int)
/-- The matrix. -/
def cauF (r c : Nat) : List (List Int) := (List.range r).map (cauR r c)
theorem cauR_len (r c i : Nat) : (cauR r c i).length = c := by simp [cauR]
theorem cauF_len (r c : Nat) : (cauF r c).length = r := by simp [cauF]
theorem cauR_take (r c i k : Nat) (hk : k < c) : (cauR r c i).take (k + 1) = (cauR r c i).take k ++ [((Gf.inv (i ^^^ (r + k)) : Nat) : Int)] := by
  rw [List.take_add_one, show (cauR r c i)[k]? = some ((Gf.inv (i ^^^ (r + k)) : Nat) : Int) from by simp [cauR, hk]]
  rfl
theorem cauF_take (r c i : Nat) (hi : i < r) : (cauF r c).take (i + 1) = (cauF r c).take i ++ [cauR r c i] := by
  rw [List.take_add_one, show (cauF r c)[i]? = some (cauR r c i) from by simp [cauF, hi]]
  rfl
theorem take_len {α : Type} {l : List α} {n k : Nat} (h : l.length = n) (hk : k ≤ n) : (l.take k).length = k := by rw [List.length_take]; omega

set_option maxRecDepth 100000 in
set_option maxHeartbeats 1000000 in
theorem cauchy_any (r c : Nat) (hr : 1 ≤ r) (hc : 1 ≤ c) (hrc : r + c ≤ 64) (w : World) :
    Calls Try.prog 42 #[.int .i64 (r : Int), .int .i64 (c : Int)] w fun e w' => ∃ v, e = .returned (.tuple #[v, .int .i64 0]) ∧ OL w' w.heap.size v (cauF r c) ∧ Ext w w' := by
  have hf := field_any w
  have hm := fun g a (ha : a < 256) W (h : Tab W g) => tinv_any g a ha W h
  replace hf := hidden hf
  replace hm := hidden hm
  obtain ⟨i0, hi, hz0, hz1, hz2⟩ := info_parts u8info
  replace hi := hidden hi
  have f3 : ¬ (c : Int) < 1 := by omega
  have f4 : ¬ (r : Int) < 1 := by omega
  have f5 : ¬ (64 : Int) < c := by omega
  have f6 : ¬ (64 : Int) < r := by omega
  have f7 : (r < c ∧ ¬ c < r) ∨ (¬ r < c ∧ ¬ c < r) ∨ (¬ r < c ∧ c < r) := by omega
  rcases f7 with ⟨f1, f2⟩ | ⟨f1, f2⟩ | ⟨f1, f2⟩
  all_goals (
    go_enter Try.func42, Try.ntmps42
    go_wp2_with fail
    refine hf.out.mono ?_
    rintro e w1 ⟨g, rfl, hT, -, hX1⟩
    replace hT := hidden hT
    replace hX1 := hidden hX1
    clear f1 f2 f3 f4 f5 f6
    go_wp2_with fail
    go_loopw [7, 23] (fun u i wr => ∃ k : Nat, i = .int .i64 (k : Int) ∧ k ≤ r ∧ Hid (OL wr w1.heap.size u ((cauF r c).take k)) ∧ Hid (Ext w1 wr)) (fun _ i _ => r - (intOf i).toNat)
    case atStart => exact ⟨0, rfl, by omega, hidden (OL.nil _ _), hidden (Ext.refl w1)⟩
    case round =>
      obtain ⟨i, rfl, hi1, hO, hX⟩ := hrel
      have v1 : IntKind.i64.wrap ((i : Int) + 1) = (i : Int) + 1 := IntWalk.i64_in _ (by omega)
      obtain ⟨w2, hWW⟩ : ∃ X, X = wr := ⟨_, rfl⟩
      subst hWW
      have hX2 : Hid (Ext w w2) := hidden (hX1.out.trans hX.out)
      have hT2 : Hid (Tab w2 g) := hidden (hT.out.ext hX.out)
      by_cases hlt : i < r
      · have hlt2 : (i : Int) < (r : Int) := by omega
        have v2 : IntKind.u8.wrap (i : Int) = (i : Int) := IntWalk.u8_in _ (by omega)
        go_upto_region 10 with fail
        go_loopw [9, 27] (fun u2 j wr2 => ∃ k : Nat, j = .int .i64 (k : Int) ∧ k ≤ c ∧ Hid (Own8 wr2 w2.heap.size u2 ((cauR r c i).take k)) ∧ Hid (Ext w2 wr2)) (fun _ j _ => c - (intOf j).toNat)
        case atStart => exact ⟨0, rfl, by omega, hidden (World.ownsRow_nil _ _ _ _), hidden (Ext.refl w2)⟩
        case round =>
          obtain ⟨k, rfl, hk1, hO2, hX3⟩ := hrel
          have v3 : IntKind.i64.wrap ((k : Int) + 1) = (k : Int) + 1 := IntWalk.i64_in _ (by omega)
          obtain ⟨w3, hWW⟩ : ∃ X, X = wr := ⟨_, rfl⟩
          subst hWW
          by_cases hlk : k < c
          · have hlk2 : (k : Int) < (c : Int) := by omega
            have v4 : IntKind.i64.wrap ((r : Int) + (k : Int)) = (r : Int) + (k : Int) := IntWalk.i64_in _ (by omega)
            have v5 : IntKind.u8.wrap ((r : Int) + (k : Int)) = ((r + k : Nat) : Int) := by rw [IntWalk.u8_in _ (by omega)]; omega
            have v6 : bits .xor .u8 (i : Int) ((r + k : Nat) : Int) = ((i ^^^ (r + k) : Nat) : Int) := bits_xor8 i (r + k) (by omega) (by omega)
            have hlx : i ^^^ (r + k) < 256 := Gf.xor_lt (by omega) (by omega)
            have htk := cauR_take r c i k hlk
            obtain ⟨x, hx⟩ : ∃ x, i ^^^ (r + k) = x := ⟨_, rfl⟩
            obtain ⟨y, hy⟩ : ∃ y, Gf.inv x = y := ⟨_, rfl⟩
            obtain ⟨z, hz⟩ : ∃ z : Nat, r + k = z := ⟨_, rfl⟩
            rw [hx, hy] at htk
            rw [hx] at hlx v6
            rw [hz] at v5 v6
            have hcl := hm.out g x hlx w3 (hT2.out.ext hX3.out)
            rw [hy] at hcl
            replace hcl := hidden hcl
            replace htk := hidden htk
            clear hx hy hz
            have hD := take_len (cauR_len r c i) (show k ≤ c by omega)
            obtain ⟨D, hDe⟩ : ∃ D, (cauR r c i).take k = D := ⟨_, rfl⟩
            have hO3 : Hid (Own8 w3 w2.heap.size u9 D) := hidden (hDe ▸ hO2.out)
            rw [hDe] at hD
            go_upto_region 12 with fail
            go_wp2_with fail
            refine hcl.out.mono ?_
            rintro e w4 ⟨rfl, q, rfl⟩
            have hE : Hid (Ext w3 (w3.drewN q)) := hidden ((Ext.refl w3).drewN q)
            obtain ⟨w4, hw4⟩ : ∃ W, w3.drewN q = W := ⟨_, rfl⟩
            rw [hw4] at hE ⊢
            clear hw4 hcl
            have hO4 : Hid (Own8 (w4.alloc (.cells #[.int .u8 (y : Int)] 5)) w2.heap.size u9 D) := hidden (own_ext hO3.out (hE.out.alloc _))
            have hrd : Hid (Rd (w4.alloc (.cells #[.int .u8 (y : Int)] 5)) 1 (.slice (some ⟨w4.heap.size, 0, none⟩) 1 1) 1 (bs [(y : Int)])) := hidden (rd_of_blkS (Blk.new w4 (bs [(y : Int)]) 5) rfl (by omega))
            have hbz : w2.heap.size ≤ (w4.alloc (.cells #[.int .u8 (y : Int)] 5)).heap.size := (hX3.out.trans (hE.out.alloc _)).size
            go_wp2_with (at_builtin; refine wpList_append_rd rfl _ _ 22 rfl w2.heap.size 5 i0 (.int .u8 0) 1 1 Try.underlying22 hi.out hz0 hz1 hz2 rfl (by decide) u9 D.length (bs D) rfl hO4.out (some ⟨w4.heap.size, 0, none⟩) 1 1 (bs [(y : Int)]) rfl hrd.out (bs_one _) (by unfold maxLen; omega) (by omega) hbz ?_; intro v3 w5 hown hgrow hat)
            have hX5 : Ext w2 w5 := Chg.ext ((Chg.of_ext [] (hX3.out.trans (hE.out.alloc _))).grown hgrow (fun y hy => Or.inr (own_lt hO4.out hy).1))
            exact ⟨⟨k + 1, by go_num, by omega, hidden (by rw [htk.out, hDe]; unfold Own8; rw [bs_app, List.length_append]; exact hown), hidden hX5⟩, by simp [intOf]; omega⟩
          · have hke : k = c := by omega
            have hO3 := hO2.out
            rw [hke, List.take_of_length_le (by rw [cauR_len]; omega)] at hO3
            have hk8 : decide ((k : Int) < (c : Int)) = false := decide_eq_false (by omega)
            have htk := cauF_take r c i hlt
            obtain ⟨D, hDe⟩ : ∃ D, cauR r c i = D := ⟨_, rfl⟩
            rw [hDe] at hO3 htk
            have hDl := take_len (cauF_len r c) (show i ≤ r by omega)
            obtain ⟨L, hLe⟩ : ∃ L, (cauF r c).take i = L := ⟨_, rfl⟩
            have hO6 : OL w2 w1.heap.size u7 L := hLe ▸ hO.out
            rw [hLe] at hDl htk
            obtain ⟨ua, uc, rfl⟩ := rd8_one hO3.rd
            obtain ⟨dn, hdn⟩ : ∃ n, D.length = n := ⟨_, rfl⟩
            rw [hdn] at hO3
            have hO7 := hO6.ext (hX3.out.alloc (.cells #[.slice ua dn uc] 22))
            have hrd : Hid (Rd (w3.alloc (.cells #[.slice ua dn uc] 22)) 1 (.slice (some ⟨w3.heap.size, 0, none⟩) 1 1) 1 [.slice ua dn uc]) := hidden (rd_of_blkS (Blk.new w3 [.slice ua dn uc] 22) rfl (by omega))
            have hu := hO3.rd.ext ((Ext.refl w3).alloc (.cells #[.slice ua dn uc] 22))
            have hne : 0 < D.length → ∀ g, u7.ownBlock = some g → (Value.slice ua dn uc).ownBlock ≠ some g := fun _ q hq hq2 => by
              have := (hO6.lt hq).2
              have := (own_lt hO3 hq2).1
              omega
            have hbz : w1.heap.size ≤ (w3.alloc (.cells #[.slice ua dn uc] 22)).heap.size := (hX.out.trans (hX3.out.alloc _)).size
            have hlt9 : ∀ y, u7.ownBlock = some y → w1.heap.size ≤ y := fun y hy => (hO6.lt hy).1
            replace hO7 := hidden hO7
            replace hu := hidden hu
            replace hne := hidden hne
            replace htk := hidden htk
            replace hlt9 := hidden hlt9
            clear hO3 hO2 hO6 hO
            go_wp2_with (at_builtin; refine wpList_append_row rfl _ _ rfl w1.heap.size u7 L rfl hO7.out (.slice ua dn uc) D hu.out hne.out (some ⟨w3.heap.size, 0, none⟩) 1 rfl hrd.out (by omega) hbz ?_; intro v3 w5 hown hgrow hat)
            have hX5 : Ext w1 w5 := Chg.ext ((Chg.of_ext [] (hX.out.trans (hX3.out.alloc _))).grown hgrow (fun y hy => Or.inr (hlt9.out y hy)))
            exact ⟨⟨i + 1, by go_num, by omega, hidden (by rw [htk.out]; exact hown), hidden hX5⟩, by simp [intOf]; omega⟩
      · have hke : i = r := by omega
        have hO3 := hO.out
        rw [hke, List.take_of_length_le (by rw [cauF_len]; omega)] at hO3
        have hk8 : decide ((i : Int) < (r : Int)) = false := decide_eq_false (by omega)
        replace hO3 := hidden hO3
        go_wp2_with fail
        refine bodyPost_ret (results_tmp2 rfl _ _ _) rfl ?_
        exact ⟨_, rfl, hO3.out.base hX1.out.size, hX2.out⟩)
end Go.Proofs.Ytpfelklhejpnnaa

/- galois.reduced$1: a multiple of a row is added to another. -/
namespace Go.Proofs.Ytpfelklhejpnnaa
open Go.RowKit
set_option linter.unusedVariables false
set_option linter.unusedSimpArgs false
attribute [local go_sem ↓] Go.wp_at_zero Go.wp_at_succ

/-- The byte that results. -/
def mixB (f : Nat) (T F : List Int) (j : Nat) : Int := (((T.getD j 0).toNat ^^^ Gf.mul f (F.getD j 0).toNat : Nat) : Int)
def mixK (f : Nat) (T F : List Int) (k : Nat) : List Int := (List.range T.length).map fun j => if j < k then mixB f T F j else T.getD j 0
/-- The row that results. -/
def mixF (f : Nat) (T F : List Int) : List Int := (List.range T.length).map (mixB f T F)
theorem mixK_len (f : Nat) (T F : List Int) (k : Nat) : (mixK f T F k).length = T.length := by simp [mixK]
theorem mixF_len (f : Nat) (T F : List Int) : (mixF f T F).length = T.length := by simp [mixF]
theorem mixK_zero (f : Nat) (T F : List Int) : mixK f T F 0 = T := by
  unfold mixK
  apply List.ext_getElem (by simp)
  intro i h1 h2
  simp [List.getD, h2]
theorem mixK_all (f : Nat) (T F : List Int) (k : Nat) (h : T.length ≤ k) : mixK f T F k = mixF f T F := by
  unfold mixK mixF
  refine List.map_congr_left fun j hj => ?_
  rw [List.mem_range] at hj
  rw [if_pos (by omega)]
theorem mixK_get (f : Nat) (T F : List Int) (k : Nat) (h : k < T.length) : (mixK f T F k).getD k 0 = T.getD k 0 := by simp [mixK, List.getD, h]
theorem mixK_set (f : Nat) (T F : List Int) (k : Nat) (h : k < T.length) : (mixK f T F k).set k (mixB f T F k) = mixK f T F (k + 1) := by
  unfold mixK
  apply List.ext_getElem (by simp)
  intro i h1 h2
  simp at h2
  rw [List.getElem_set]
  by_cases hik : k = i
  · subst hik; simp
  · rw [if_neg hik]
    simp
    by_cases h3 : i < k
    · rw [if_pos h3, if_pos (by omega)]
    · rw [if_neg h3, if_neg (by omega)]
theorem mixB_byte (f : Nat) {T F : List Int} (hT : Bytes T) (hF : Bytes F) (j : Nat) (h : j < T.length) : 0 ≤ mixB f T F j ∧ mixB f T F j ≤ 255 := by
  have h1 := hT.get j h
  have : (T.getD j 0).toNat ^^^ Gf.mul f (F.getD j 0).toNat < 256 := Gf.xor_lt (by omega) (Gf.mul_lt _ _)
  unfold mixB
  omega
theorem mixF_bytes (f : Nat) {T F : List Int} (hT : Bytes T) (hF : Bytes F) : Bytes (mixF f T F) := by
  intro x hx
  unfold mixF at hx
  rw [List.mem_map] at hx
  obtain ⟨j, hj, rfl⟩ := hx
  rw [List.mem_range] at hj
  exact mixB_byte f hT hF j hj

def CombP (w : World) (B bt n cap : Nat) (T : List Int) (e : Ending) (w' : World) : Prop := e = .returned (.tuple #[]) ∧ Own8 w' B (.slice (some ⟨bt, 0, none⟩) n cap) T ∧ Chg [bt] w w'
set_option maxRecDepth 100000 in
set_option maxHeartbeats 1000000 in
theorem comb_any (f g p B bt n cap : Nat) (T F : List Int) (hf : f < 256) (hbT : Bytes T) (hbF : Bytes F) (hTl : T.length = n) (hFl : F.length = n) (hn : n ≤ 1000) (vF : Value) (w : World)
    (hO : Own8 w B (.slice (some ⟨bt, 0, none⟩) n cap) T) (hR : Rd8 w vF F) (hne : vF.ownBlock ≠ some bt) (hp : Blk w p 98 [.pointer (some ⟨g, 0, none⟩)]) (hg : Tab w g) :
    Calls Try.prog 82 #[.slice (some ⟨bt, 0, none⟩) n cap, vF, .int .u8 (f : Int), .pointer (some ⟨p, 0, none⟩)] w (CombP w B bt n cap (mixF f T F)) := by
  obtain ⟨aF, cF, rfl⟩ := rd8_one hR
  have hpb : p ≠ bt := fun h => own_ne_blk hO hp (by decide) (by rw [h]; rfl)
  have hgb : g ≠ bt := fun h => own_ne_blk hO hg (by decide) (by rw [h]; rfl)
  have hm := fun a (ha : a < 256) W (h : Tab W g) => tmul_any g f a hf ha W h
  rw [hFl] at hR hne ⊢
  replace hm := hidden hm
  replace hO := hidden hO
  replace hR := hidden hR
  replace hne := hidden hne
  replace hp := hidden hp
  replace hg := hidden hg
  replace hbT := hidden hbT
  replace hbF := hidden hbF
  go_enter Try.func82, Try.ntmps82
  go_wp2_with fail
  go_loopw [11] (fun i wr => ∃ k : Nat, i = .int .i64 (k : Int) ∧ k ≤ n ∧ Hid (Own8 wr B (.slice (some ⟨bt, 0, none⟩) n cap) (mixK f T F k)) ∧ Hid (Chg [bt] w wr)) (fun i _ => n - (intOf i).toNat)
  case atStart => exact ⟨0, rfl, by omega, hidden (by rw [mixK_zero]; exact hO.out), hidden (Chg.refl _ w)⟩
  case round =>
    obtain ⟨k, rfl, hk, hO1, hX⟩ := hrel
    have v1 : IntKind.i64.wrap ((k : Int) + 1) = (k : Int) + 1 := IntWalk.i64_in _ (by omega)
    obtain ⟨w4, hWW⟩ : ∃ X, X = wr := ⟨_, rfl⟩
    subst hWW
    by_cases hlt : k < n
    · have hlt2 : (k : Int) < (n : Int) := by omega
      have hR4 : Rd8 w4 (.slice aF n cF) F := Rd.chg hR.out hX.out (fun x hx _ => by simp at hx; subst hx; exact hne.out)
      obtain ⟨bF, oF, rfl, hbFs⟩ := hR4.some (by omega)
      have cF0 := hR4.at k (by omega)
      have ct0 := hO1.out.rd.at k (by rw [mixK_len]; omega)
      rw [mixK_get f T F k (by omega), Nat.zero_add] at ct0
      have cp0 := (hp.out.chg hX.out (by simpa using hpb)).cell 0 _ rfl
      have hg4 : Tab w4 g := Blk.chg hg.out hX.out (by simpa using hgb)
      have hst := mixK_set f T F k (by omega)
      have hfr := hO1.out.frozen k
      obtain ⟨x, hx, hxl⟩ : ∃ x : Nat, F.getD k 0 = (x : Int) ∧ x < 256 := ⟨(F.getD k 0).toNat, by have := hbF.out.get k (by omega); omega, by have := hbF.out.get k (by omega); omega⟩
      obtain ⟨y, hy, hyl⟩ : ∃ x : Nat, T.getD k 0 = (x : Int) ∧ x < 256 := ⟨(T.getD k 0).toNat, by have := hbT.out.get k (by omega); omega, by have := hbT.out.get k (by omega); omega⟩
      unfold mixB at hst
      rw [hx, hy, Int.toNat_natCast, Int.toNat_natCast] at hst
      rw [hx] at cF0
      rw [hy] at ct0
      have hcl := hm.out x hxl
      have hzl := Gf.mul_lt f x
      obtain ⟨z, hz⟩ : ∃ z, Gf.mul f x = z := ⟨_, rfl⟩
      rw [hz] at hcl hst hzl
      have v2 : bits .xor .u8 (y : Int) (z : Int) = ((y ^^^ z : Nat) : Int) := bits_xor8 y z hyl hzl
      obtain ⟨q, hq⟩ : ∃ q, y ^^^ z = q := ⟨_, rfl⟩
      rw [hq] at v2 hst
      have hfin : Hid (∀ m, CombP w4 B bt n cap (mixK f T F (k + 1)) (.returned (.tuple #[])) ((w4.drewN m).setCell ⟨bt, k, none⟩ (.int .u8 (q : Int)))) := hidden (fun m => by
        refine ⟨rfl, ?_, (Chg.of_ext [bt] ((Ext.refl w4).drewN m)).setCell (Or.inl (by simp)) _⟩
        rw [← hst]
        exact Own8.set (own_ext hO1.out ((Ext.refl w4).drewN m)) k _)
      have hcl2 : Hid (∀ m, Calls Try.prog 56 #[.pointer (some ⟨g, 0, none⟩), .int .u8 (f : Int), .int .u8 (x : Int)] (w4.drewN m) fun e w' => e = .returned (.int .u8 (z : Int)) ∧ ∃ k, w' = w4.drewN (m + k)) := hidden (fun m => (hcl (w4.drewN m) (hg4.ext ((Ext.refl w4).drewN m))).mono (by rintro e w' ⟨h1, j, h2⟩; exact ⟨h1, j, by rw [h2]; exact World.drewN_drewN ..⟩))
      clear hst hcl hz hq hx hy hR4 hg4
      go_upto_region 3 with fail
      go_region_with (go_at_call 56; refine (hcl2.out 1).mono ?_; rintro e w5 ⟨rfl, m, rfl⟩)
      all_goals
        have hf1 := hfin.out (1 + m)
        replace hf1 := hidden hf1
        obtain ⟨w6, hw6⟩ : ∃ W, (w4.drewN (1 + m)).setCell ⟨bt, k, none⟩ (.int .u8 (q : Int)) = W := ⟨_, rfl⟩
        rw [hw6] at hf1 ⊢
        clear hw6 hcl2 hfin
        go_wp2_with fail
        exact ⟨⟨k + 1, by go_num, by omega, hidden hf1.out.2.1, hidden (hX.out.trans hf1.out.2.2 (fun x hx => Or.inl hx))⟩, by simp [intOf]; omega⟩
    · have hke : k = n := by omega
      have hk8 : decide ((k : Int) < (n : Int)) = false := decide_eq_false (by omega)
      have hO2 := hO1.out
      rw [mixK_all f T F k (by omega)] at hO2
      replace hO2 := hidden hO2
      go_wp2_with fail
      go_end0
      exact ⟨rfl, hO2.out, hX.out⟩
end Go.Proofs.Ytpfelklhejpnnaa
