/- volume.cut. -/
import Derived.Test.YtpfelklhejpnnaaHab
import Derived.Test.YtpfelklhejpnnaaGl
import Derived.Test.YtpfelklhejpnnaaGw
namespace Go.Proofs.Ytpfelklhejpnnaa
open Go.RowKit
set_option linter.unusedVariables false
set_option linter.unusedSimpArgs false
attribute [local go_sem ↓] Go.wp_at_zero Go.wp_at_succ

theorem Rd.slicedm {w : World} {sz n cap l h m : Nat} {a : Option Addr} {cs : List Value} (r : Rd w sz (.slice a n cap) n cs) (h1 : l ≤ h) (h2 : h ≤ n) (h3m : h ≤ m) (h4m : m ≤ cap) :
    Rd w sz (Go.sliced a l h m sz) (h - l) ((cs.drop (l * sz)).take ((h - l) * sz)) := by
  obtain ⟨hl, a', cap', e, h3, h4, h5, h6⟩ := r
  simp only [Value.slice.injEq] at e
  obtain ⟨rfl, -, rfl⟩ := e
  have hm : (h - l) * sz ≤ n * sz - l * sz := by rw [← Nat.sub_mul]; exact Nat.mul_le_mul_right _ (by omega)
  have hlen : ((cs.drop (l * sz)).take ((h - l) * sz)).length = (h - l) * sz := by rw [List.length_take, List.length_drop, hl]; omega
  refine ⟨hlen, _, _, rfl, by omega, by omega, ?_, ?_⟩
  · intro he
    by_cases hc : m = l
    · omega
    · rw [if_neg hc] at he
      have := h5 (by simpa using he)
      omega
  · intro hn
    obtain ⟨b, off, rfl, hb, hcell⟩ := h6 (by omega)
    rw [if_neg (by omega)]
    have ha : (⟨b, off, none⟩ : Addr).add (l * sz) = ⟨b, off + l * sz, none⟩ := by
      unfold Addr.add
      split
      · next hz => rw [hz]; rfl
      · rfl
    refine ⟨b, off + l * sz, by simp [ha], hb, fun j hj => ?_⟩
    rw [hlen] at hj
    rw [Nat.add_assoc, hcell (l * sz + j) (by omega)]
    congr 1
    simp [List.getD, List.getElem?_drop, hj]
theorem cut_lhm8 {w0 : World} {n cap : Nat} {a : Option Addr} {D : List Int} (hr : Rd8 w0 (.slice a n cap) D) (hne : D.length = n) (l h : Nat) (h1 : l ≤ h) (h2 : h ≤ n) (hc : n ≤ cap) :
    ∃ a' cap', (∀ w, (Instr.sliceAt 22 (.slice a n cap) (some (.int .i64 (l : Int))) (some (.int .i64 (h : Int))) (some (.int .i64 (h : Int)))).run Try.prog w = .ok (.slice a' (h - l) cap') w) ∧ Rd8 w0 (.slice a' (h - l) cap') ((D.drop l).take (h - l)) ∧ (∀ g, (Value.slice a n cap).ownBlock ≠ some g → (Value.slice a' (h - l) cap').ownBlock ≠ some g) := by
  have r : Rd w0 1 (.slice a n cap) n (bs D) := by have := hr; unfold Rd8 at this; rw [hne] at this; exact this
  have hg := r.slicedm h1 h2 (Nat.le_refl h) (by omega)
  refine ⟨_, _, fun w => ?_, ?_, fun g => sliced_block a l h h 1 n cap g⟩
  · have he : Try.prog.elem 22 = 5 := by unfold Program.elem; rw [Try.underlying22]
    have ht : Try.prog.underlying 22 = some (.slice (Try.prog.elem 22)) := by rw [he]; exact Try.underlying22
    rw [run_sliceAt_slice w 22 _ _ _ _ ht, run_slice_lhm w 22 _ _ _ ht _ _ _ _ _ _ (by omega) (by omega) (by omega) (by omega), he, Try.sizeOf5]
    rfl
  · unfold Rd8
    have e : bs ((D.drop l).take (h - l)) = ((bs D).drop (l * 1)).take ((h - l) * 1) := by rw [Nat.mul_one, Nat.mul_one]; simp [bs, List.map_take, List.map_drop]
    rw [e, List.length_take, List.length_drop, hne, Nat.min_eq_left (by omega)]
    exact hg
/-- All the bytes, filled up with zeros. -/
def padF (b : List Int) (N : Nat) : List Int := b ++ List.replicate (N - b.length) 0
def cutR (b : List Int) (d s i : Nat) : List Int := ((padF b (d * s)).drop (i * s)).take s
def cutF (b : List Int) (d s : Nat) : List (List Int) := (List.range d).map (cutR b d s)
theorem padF_len (b : List Int) (N : Nat) (h : b.length ≤ N) : (padF b N).length = N := by unfold padF; rw [List.length_append, List.length_replicate]; omega
theorem cutF_len (b : List Int) (d s : Nat) : (cutF b d s).length = d := by simp [cutF]
theorem cutR_len (b : List Int) (d s i : Nat) (h : b.length ≤ d * s) (hi : i < d) : (cutR b d s i).length = s := by
  unfold cutR
  rw [List.length_take, List.length_drop, padF_len b _ h]
  have : (i + 1) * s ≤ d * s := Nat.mul_le_mul_right _ hi
  rw [Nat.add_mul, Nat.one_mul] at this
  omega
theorem cutF_take (b : List Int) (d s k : Nat) (hk : k < d) : (cutF b d s).take (k + 1) = (cutF b d s).take k ++ [cutR b d s k] := by
  unfold cutF
  rw [List.take_add_one, List.getElem?_map, List.getElem?_range hk]
  rfl
set_option maxRecDepth 100000 in
set_option maxHeartbeats 2000000 in
theorem cut_any (d s : Nat) (h1d : 1 ≤ d) (hd : d ≤ 64) (h1s : 1 ≤ s) (hs : s ≤ 1000) (v : Value) (b : List Int) (hb : b.length ≤ d * s) (w : World) (hr : Rd8 w v b) :
    Calls Try.prog 12 #[v, .int .i64 (d : Int), .int .i64 (s : Int)] w fun e w' => ∃ v', e = .returned v' ∧ OL w' w.heap.size v' (cutF b d s) ∧ Ext w w' := by
  obtain ⟨ad, cap, rfl, -⟩ := Rd.shape hr
  obtain ⟨n, hn⟩ : ∃ n, b.length = n := ⟨_, rfl⟩
  rw [hn] at hr hb ⊢
  obtain ⟨N, hN⟩ : ∃ N, d * s = N := ⟨_, rfl⟩
  rw [hN] at hb
  have hNb : N ≤ 64 * 1000 := by rw [← hN]; exact Nat.mul_le_mul hd hs
  have hNp : 0 < N := by rw [← hN]; exact Nat.mul_pos h1d h1s
  have e0 : (d : Int) * (s : Int) = (N : Int) := by rw [← hN]; simp
  have v0 : IntKind.i64.wrap ((d : Int) * (s : Int)) = (N : Int) := by rw [e0]; exact IntWalk.i64_in _ (by omega)
  replace e0 := hidden e0
  have hmk := mk_bytes N (by omega) w
  have hoA : Own8 (w.alloc (.cells (madeCells #[.int .u8 0] N) 5)) w.heap.size (.slice (some ⟨w.heap.size, 0, none⟩) N N) (List.replicate N 0) := own_bytes w N (by omega)
  have hXA : Ext w (w.alloc (.cells (madeCells #[.int .u8 0] N) 5)) := (Ext.refl w).alloc _
  obtain ⟨q, hq⟩ : ∃ q, w.heap.size = q := ⟨_, rfl⟩
  have hg : (w.alloc (.cells (madeCells #[.int .u8 0] N) 5)).heap[q]? = some (.cells (bs (List.replicate N 0)).toArray 5 (0, 0)) := by
    rw [← hq, ← made_bytes N]
    exact heap_alloc_new w _
  have hsz : (Try.prog.info? 5).map (·.size) = some 1 := by kernel_rfl
  have hpl : (bs b).length = Nat.min n N := by rw [bs_len, hn]; exact (Nat.min_eq_left hb).symm
  have hsp : splice (bs (List.replicate N 0)) 0 (bs b) = bs (padF b N) := by
    unfold splice padF
    rw [List.take_zero, List.nil_append, Nat.zero_add, bs_len, bs_app, hn]
    congr 1
    simp [bs]
  have hpos : 0 < (bs b).length → (some (⟨q, 0, none⟩ : Addr)) = some ⟨q, 0, none⟩ ∧ ∃ a, ad = some a ∧ ∀ j u, (bs b)[j]? = some u → (w.alloc (.cells (madeCells #[.int .u8 0] N) 5)).cell? (a.add j) = some u := fun h0 => by
    have h1 := hr.ext hXA
    obtain ⟨b', off', rfl, -, -⟩ := Rd.cells (show Rd w 1 (.slice ad n cap) n (bs b) by have := hr; unfold Rd8 at this; rw [hn] at this; exact this) (by rw [bs_len, hn] at h0; exact h0)
    exact ⟨rfl, _, rfl, Rd.news (show Rd _ 1 (.slice (some ⟨b', off', none⟩) n cap) n (bs b) by have := h1; unfold Rd8 at this; rw [hn] at this; exact this)⟩
  replace hsp := hidden hsp
  replace hpos := hidden hpos
  replace hpl := hidden hpl
  replace hg := hidden hg
  replace hr := hidden hr
  replace hNH := hidden hN
  clear hoA
  go_enter Try.func12, Try.ntmps12
  go_upto_region 2 with fail
  go_wp2_with (refine wpList_copy_splice rfl (.tmp 15) (.tmp 16) 22 22 rfl 5 Try.underlying22 hsz _ _ _ _ _ _ rfl rfl q 0 (bs (List.replicate N 0)) 5 hg.out (bs b) hpl.out hpos.out (by rw [bs_len, bs_len, hn, List.length_replicate]; omega) (bs_one _) w.heap.size w hXA (by rw [hq]; exact Nat.le_refl _) ?_; intro w2 HG2 hB2)
  have hG : Hid (w2.heap[q]? = some (.cells (bs (padF b N)).toArray 5 (0, 0))) := hidden (by rw [← hsp.out]; exact HG2.out)
  have hX2 : Ext w w2 := hB2
  have hpf := padF_len b N (by omega)
  have hqw : q < w2.heap.size := (Array.getElem?_eq_some_iff.1 hG.out).1
  have hR2 : Rd8 w2 (.slice (some ⟨q, 0, none⟩) N N) (padF b N) := by
    unfold Rd8
    rw [hpf]
    refine ⟨by rw [bs_len, hpf]; omega, _, _, rfl, Nat.le_refl _, by unfold maxLen; omega, (fun e => by cases e), fun _ => ⟨q, 0, rfl, hqw, fun j hj => ?_⟩⟩
    rw [Nat.zero_add]
    have : Blk w2 q 5 (bs (padF b N)) := hG.out
    exact this.cell j _ (by simp [List.getD, List.getElem?_eq_getElem hj])
  replace hR2 := hidden hR2
  replace hX2 := hidden hX2
  clear HG2 hB2 hG hpos hpl hg hr hsz hmk hXA v0
  obtain ⟨Z, hZ⟩ : ∃ Z, padF b N = Z := ⟨_, rfl⟩
  go_upto_region 5 with fail
  go_loopw [8, 19] (fun u i wr => ∃ k : Nat, i = .int .i64 (k : Int) ∧ k ≤ d ∧ Hid (OL wr w2.heap.size u ((cutF b d s).take k)) ∧ Hid (Ext w2 wr)) (fun _ i _ => d - (intOf i).toNat)
  case atStart => exact ⟨0, rfl, by omega, hidden (OL.nil _ _), hidden (Ext.refl w2)⟩
  case round =>
    obtain ⟨k, rfl, hk, hO, hX⟩ := hrel
    have v1 : IntKind.i64.wrap ((k : Int) + 1) = (k : Int) + 1 := IntWalk.i64_in _ (by omega)
    obtain ⟨w6, hWW⟩ : ∃ X, X = wr := ⟨_, rfl⟩
    subst hWW
    by_cases hlt : k < d
    · have hlt2 : (k : Int) < (d : Int) := by omega
      obtain ⟨m, hm⟩ : ∃ m, k * s = m := ⟨_, rfl⟩
      obtain ⟨h, hh⟩ : ∃ h, m + s = h := ⟨_, rfl⟩
      have hhN : h ≤ N := by
        have := Nat.mul_le_mul_right s (show k + 1 ≤ d from hlt)
        rw [Nat.add_mul, Nat.one_mul, hNH.out, hm] at this
        omega
      have e2 : (k : Int) * (s : Int) = (m : Int) := by rw [← hm]; simp
      have v2 : IntKind.i64.wrap ((k : Int) * (s : Int)) = (m : Int) := by rw [e2]; exact IntWalk.i64_in _ (by omega)
      have v3 : IntKind.i64.wrap ((m : Int) + (s : Int)) = (h : Int) := by rw [IntWalk.i64_in _ (by omega)]; omega
      obtain ⟨ca, cc, hcut, hcR, hcn⟩ := cut_lhm8 (hR2.out.ext hX.out) hpf m h (by omega) hhN (Nat.le_refl N)
      rw [show h - m = s from by omega] at hcut hcR hcn
      have ht := cutF_take b d s k hlt
      have hrow : ((padF b N).drop m).take s = cutR b d s k := by unfold cutR; rw [hNH.out, hm]
      have hDl : (cutR b d s k).length = s := cutR_len b d s k (by rw [hNH.out]; omega) hlt
      rw [hrow] at hcR
      obtain ⟨D, hD⟩ : ∃ D, cutR b d s k = D := ⟨_, rfl⟩
      rw [hD] at hcR ht hDl
      have hLl := take_len (cutF_len b d s) (show k ≤ d by omega)
      obtain ⟨L, hLe⟩ : ∃ L, (cutF b d s).take k = L := ⟨_, rfl⟩
      rw [hLe] at ht hLl
      have hO6 : OL w6 w2.heap.size u8 L := hLe ▸ hO.out
      have hne : Hid (0 < D.length → ∀ g, u8.ownBlock = some g → (Value.slice ca s cc).ownBlock ≠ some g) := hidden (fun _ g hg => hcn g (by
        have := (hO6.lt hg).1
        simp [Value.ownBlock]
        omega))
      replace hO6 := hidden hO6
      replace hcR := hidden hcR
      replace ht := hidden ht
      replace e2 := hidden e2
      replace hh := hidden hh
      replace hm := hidden hm
      clear hcn hD hrow hO hLe
      go_wp2_with (at_builtin; refine wpList_append_fresh rfl _ _ rfl w2 w6 w6 u8 L rfl hO6.out hX.out (Ext.refl w6) ca s cc D hcR.out hne.out rfl (by omega) ?_; intro v8 w8 hown hX8)
      exact ⟨⟨k + 1, by go_num, by omega, hidden (by rw [ht.out]; exact hown), hidden hX8⟩, by simp [intOf]; omega⟩
    · have hke : k = d := by omega
      have hO2 := hO.out
      rw [hke, List.take_of_length_le (by rw [cutF_len]; omega)] at hO2
      have hk8 : decide ((k : Int) < (d : Int)) = false := decide_eq_false (by omega)
      have hXf : Hid (Ext w w6) := hidden (hX2.out.trans hX.out)
      replace hO2 := hidden hO2
      clear hO hke
      go_wp2_with fail
      go_ret
      exact ⟨_, rfl, hO2.out.base hX2.out.size, hXf.out⟩
end Go.Proofs.Ytpfelklhejpnnaa

/- Headers that were put are read again: plain. -/
namespace Go.Proofs.Ytpfelklhejpnnaa
open Go.RowKit
set_option linter.unusedVariables false
set_option linter.unusedSimpArgs false

theorem head_tab : (List.range 8).all (fun k => (List.range (2 ^ (7 - k))).all fun h => decide (ones (256 - 2 ^ (8 - k) + (h : Int)) = k) && decide (first (256 - 2 ^ (8 - k) + (h : Int)) k = (h : Int))) = true := by decide +kernel
theorem whead_ones (n : Int) (h0 : 0 ≤ n) (h1 : n ≤ 9007199254740991) : ones (whead n) = fur n ∧ first (whead n) (fur n) = n / 2 ^ (8 * fur n) := by
  have h7 := fur_7 n h0 h1
  have hw := whigh n h0 h1
  unfold whead
  obtain ⟨k, hk⟩ : ∃ k, fur n = k := ⟨_, rfl⟩
  rw [hk] at h7 hw ⊢
  obtain ⟨x, hx⟩ := Int.eq_ofNat_of_zero_le hw.1
  rw [hx] at hw ⊢
  have hx2 : x < 2 ^ (7 - k) := by
    have := hw.2
    have e : ((2 ^ (7 - k) : Nat) : Int) = (2 : Int) ^ (7 - k) := by simp
    omega
  have h1 := List.all_eq_true.1 head_tab k (by simp; omega)
  have h2 := List.all_eq_true.1 h1 x (by simpa using hx2)
  simp only [Bool.and_eq_true, decide_eq_true_eq] at h2
  exact h2
theorem grow_tail (n : Int) (k : Nat) : grow (n / 2 ^ (8 * k)) (wtail n k) = n := by
  induction k with
  | zero => simp [wtail, grow]
  | succ k ih =>
    have e : n / 2 ^ (8 * (k + 1)) = n / 2 ^ (8 * k) / 256 := by
      rw [show 8 * (k + 1) = 8 * k + 8 by omega, Int.pow_add, Int.ediv_ediv_of_nonneg (Int.pow_nonneg (by decide))]
      rfl
    show grow (256 * (n / 2 ^ (8 * (k + 1))) + n / 2 ^ (8 * k) % 256) (wtail n k) = n
    rw [e, show 256 * (n / 2 ^ (8 * k) / 256) + n / 2 ^ (8 * k) % 256 = n / 2 ^ (8 * k) by omega]
    exact ih
theorem wrd_enc (n : Int) (h0 : 0 ≤ n) (h1 : n ≤ 9007199254740991) (more : List Int) : wrd (wenc n ++ more) = (0, n, more) := by
  obtain ⟨o1, o2⟩ := whead_ones n h0 h1
  have h7 := fur_7 n h0 h1
  have hl := wtail_len n (fur n)
  have e : wenc n ++ more = whead n :: (wtail n (fur n) ++ more) := rfl
  have ht : (wtail n (fur n) ++ more).take (fur n) = wtail n (fur n) := by rw [List.take_append_of_le_length (by omega), List.take_of_length_le (by omega)]
  have hd : (wtail n (fur n) ++ more).drop (fur n) = more := by rw [List.drop_append_of_le_length (by omega), List.drop_of_length_le (by omega)]; rfl
  rw [e, wrd_good (whead n) _ (fur n) o1 h7 (by rw [List.length_append]; omega) n (by rw [ht, o2]; exact grow_tail n (fur n)) (by omega), hd]
theorem bytes_append {a b : List Int} (ha : Bytes a) (hb : Bytes b) : Bytes (a ++ b) := fun x hx => by
  rcases List.mem_append.1 hx with h | h
  · exact ha x h
  · exact hb x h
theorem wtail_bytes (n : Int) (k : Nat) : Bytes (wtail n k) := by
  induction k with
  | zero => intro x hx; cases hx
  | succ k ih =>
    intro x hx
    rcases List.mem_cons.1 hx with rfl | hx
    · omega
    · exact ih x hx
theorem wenc_bytes (n : Int) (h0 : 0 ≤ n) (h1 : n ≤ 9007199254740991) : Bytes (wenc n) := by
  have h7 := fur_7 n h0 h1
  have hw := whigh n h0 h1
  have hp : (2 : Int) ^ (8 - fur n) = 2 * 2 ^ (7 - fur n) := by rw [show 8 - fur n = 7 - fur n + 1 by omega, Int.pow_succ, Int.mul_comm]
  have hp8 : (2 : Int) ^ (8 - fur n) ≤ 256 := by
    have e : (2 : Int) ^ 8 = 256 := by decide
    rw [← e]
    exact_mod_cast Nat.pow_le_pow_right (by decide : 0 < 2) (by omega)
  intro x hx
  rcases List.mem_cons.1 hx with rfl | hx
  · unfold whead
    rw [hp] at hp8 ⊢
    omega
  · exact wtail_bytes n _ x hx

theorem hdB_bytes : ∀ (ns : List Int), (∀ n ∈ ns, 0 ≤ n ∧ n ≤ 9007199254740991) → Bytes (hdB ns) := by
  intro ns h x hx
  unfold hdB at hx
  obtain ⟨n, hn, hx⟩ := List.mem_flatMap.1 hx
  have := h n hn
  rw [wnum_id this.1 this.2] at hx
  exact wenc_bytes n this.1 this.2 x hx
theorem rdN_hdB : ∀ (ns : List Int), (∀ n ∈ ns, 0 ≤ n ∧ n ≤ 9007199254740991) → ∀ part, rdN ns.length (hdB ns ++ part) = (0, ns, part) := by
  intro ns
  induction ns with
  | nil => intro _ part; rfl
  | cons n ns ih =>
    intro h part
    have h1 := h n (by simp)
    have e : hdB (n :: ns) ++ part = wenc n ++ (hdB ns ++ part) := by
      unfold hdB
      rw [List.flatMap_cons, wnum_id h1.1 h1.2, List.append_assoc]
    have hw := wrd_enc n h1.1 h1.2 (hdB ns ++ part)
    have h2 := ih (fun m hm => h m (by simp [hm])) part
    show rdN (ns.length + 1) _ = _
    rw [e]
    unfold rdN
    rw [hw]
    simp only
    rw [h2]
    simp
theorem tail4_bytes (s : Nat) : Bytes (tail4 s) := by
  intro x hx
  unfold tail4 at hx
  simp at hx
  rcases hx with rfl | rfl | rfl | rfl <;> omega
theorem volF_bytes {ns part : List Int} (h : ∀ n ∈ ns, 0 ≤ n ∧ n ≤ 9007199254740991) (hp : Bytes part) : Bytes (volF ns part) := by
  unfold volF sealF vbody
  exact bytes_append (bytes_append (hdB_bytes ns h) hp) (tail4_bytes _)
theorem volF_len (ns part : List Int) : (volF ns part).length = (hdB ns).length + part.length + 4 := by
  unfold volF sealF vbody hdB
  rw [List.length_append, List.length_append]
  rfl
/-- The header of a volume that was put. -/
theorem hdF_volF (a b c d e : Nat) (part : List Int) (ha : a ≤ 4294967295) (hc0 : c ≠ 0) (hcd : c + d ≤ 64) (hb : b < c + d) (he : e ≤ 65536) (hp : part.length = sizeF e c) (hpl : part.length ≤ 60000) :
    hdF (volF [(a : Int), (b : Int), (c : Int), (d : Int), (e : Int)] part) = (0, [(a : Int), (b : Int), (c : Int), (d : Int), (e : Int)], part) := by
  have hns : ∀ n ∈ [(a : Int), (b : Int), (c : Int), (d : Int), (e : Int)], 0 ≤ n ∧ n ≤ 9007199254740991 := by
    intro n hn
    simp at hn
    rcases hn with rfl | rfl | rfl | rfl | rfl <;> omega
  have hl := volF_len [(a : Int), (b : Int), (c : Int), (d : Int), (e : Int)] part
  have hh := hdB_len [(a : Int), (b : Int), (c : Int), (d : Int), (e : Int)]
  simp only [List.length_cons, List.length_nil] at hh
  have hop : openF (volF [(a : Int), (b : Int), (c : Int), (d : Int), (e : Int)] part) = (0, vbody [(a : Int), (b : Int), (c : Int), (d : Int), (e : Int)] part) := by
    have hvl : (vbody [(a : Int), (b : Int), (c : Int), (d : Int), (e : Int)] part).length = (volF [(a : Int), (b : Int), (c : Int), (d : Int), (e : Int)] part).length - 4 := by
      rw [hl]; unfold vbody; rw [List.length_append]; unfold hdB; omega
    have ht : (volF [(a : Int), (b : Int), (c : Int), (d : Int), (e : Int)] part).take ((volF [(a : Int), (b : Int), (c : Int), (d : Int), (e : Int)] part).length - 4) = vbody [(a : Int), (b : Int), (c : Int), (d : Int), (e : Int)] part := by
      rw [← hvl]
      unfold volF sealF
      exact List.take_left
    unfold openF
    rw [if_neg (by omega), if_neg (by omega), ht]
    exact if_pos rfl
  have hrd : rdN 5 (vbody [(a : Int), (b : Int), (c : Int), (d : Int), (e : Int)] part) = (0, [(a : Int), (b : Int), (c : Int), (d : Int), (e : Int)], part) := rdN_hdB _ hns part
  unfold hdF
  rw [hop]
  simp only
  rw [hrd]
  simp only
  rw [if_neg (by simp), if_neg (by simp)]
  unfold hd2
  simp only [List.getD_cons_zero, List.getD_cons_succ, Int.toNat_natCast]
  rw [if_neg (by unfold badN; omega), if_neg (by rw [hp]; simp)]
theorem OLF.chg_lt {w w' : World} {S : List Nat} {B : Nat} {v : Value} {L : List (List Int)} (h : OLF w B v L) (hC : Chg S w w') (hS : ∀ x ∈ S, x < B) : OLF w' B v L := by
  obtain ⟨vs, h1, h2, h3, h4⟩ := h
  refine ⟨vs, own_chg h1 hC (fun x hx e => ?_), ⟨h2.1, fun i u C hv hc => Rd.chg (h2.2 i u C hv hc) hC (fun x hx h0 e => ?_)⟩, h3, h4⟩
  · have := (own_lt h1 e).1
    have := hS x hx
    omega
  · have := h4 i u hv x e
    have := hS x hx
    omega
/-- One fresh byte string is appended that a slice of one holds, made just before. -/
theorem wpList_append_freshF {ops : Array Oper} {rest : List Oper} {o : Oper} {a : Act} {Q : Exit → Act → World → Prop} (hgd : o.guard = none) (s x : Operand)
    (ho : o.op = .call { callee := .builtin .append, args := #[s, x], argTypes := #[26, 26] })
    (B : Nat) (w6 w7 : World) (u : Value) (L : List (List Int)) (hs : a.eval s = u) (hO : OLF w6 B u L) (h06 : B ≤ w6.heap.size) (h67 : Ext w6 w7) (ua : Option Addr) (n uc : Nat) (D : List Int) (hD : Own8 w7 w6.heap.size (.slice ua n uc) D)
    (hx : a.eval x = .slice (some ⟨w7.heap.size, 0, none⟩) 1 1) (hL : L.length ≤ 1000000)
    (h : ∀ v' w', OLF w' B v' (L ++ [D]) → Chg u.ownBlock.toList w6 w' → (∀ g, u.ownBlock = some g → B ≤ g) → wpList Try.prog ops Q rest (a.put o.dst v') w') :
    wpList Try.prog ops Q (o :: rest) a (w7.alloc (.cells #[.slice ua n uc] 22)) := by
  have hrd : Rd (w7.alloc (.cells #[.slice ua n uc] 22)) 1 (.slice (some ⟨w7.heap.size, 0, none⟩) 1 1) 1 [.slice ua n uc] := rd_of_blkS (Blk.new w7 [.slice ua n uc] 22) rfl (by omega)
  have hsz : B ≤ (w7.alloc (.cells #[.slice ua n uc] 22)).heap.size := Nat.le_trans h06 (h67.alloc _).size
  have hge : ∀ g, u.ownBlock = some g → B ≤ g := fun g hg => (hO.ol.lt hg).1
  refine wpList_append_rowF hgd s x ho B u L hs (hO.ext (h67.alloc _)) (.slice ua n uc) D (hD.rd.ext ((Ext.refl w7).alloc _)) (OL.ne hO.ol hD) (fun g hg => ?_) (some ⟨w7.heap.size, 0, none⟩) 1 hx hrd hL hsz ?_
  · have := (own_lt hD hg).1; omega
  · intro v' w' hown hgrow hat
    refine h v' w' hown ((Chg.of_ext _ (h67.alloc _)).grown hgrow (fun k hk => Or.inl (by simp [hk]))) hge
end Go.Proofs.Ytpfelklhejpnnaa

/- volume.Split. -/
namespace Go.Proofs.Ytpfelklhejpnnaa
open Go.RowKit
set_option linter.unusedVariables false
set_option linter.unusedSimpArgs false
attribute [local go_sem ↓] Go.wp_at_zero Go.wp_at_succ

theorem sizeF_ge (n d : Nat) (hd : 1 ≤ d) : n ≤ d * sizeF n d := by
  have h1 := Nat.div_add_mod (n + d - 1) d
  have h2 := Nat.mod_lt (n + d - 1) (show 0 < d by omega)
  have h3 : d * ((n + d - 1) / d) ≤ d * sizeF n d := Nat.mul_le_mul_left _ (Nat.le_max_right _ _)
  omega
theorem sizeF_pos (n d : Nat) : 1 ≤ sizeF n d := Nat.le_max_left _ _
theorem sizeF_le (n d : Nat) (hd : 1 ≤ d) (m : Nat) (hm : 1 ≤ m) (hn : n ≤ m) : sizeF n d ≤ m := by
  refine Nat.max_le.2 ⟨hm, ?_⟩
  rcases Nat.eq_zero_or_pos n with h | h
  · subst h
    rw [Nat.div_eq_of_lt (by omega)]
    omega
  · refine Nat.le_trans ((Nat.div_le_iff_le_mul_add_pred (show 0 < d by omega)).2 (?_ : n + d - 1 ≤ d * n + (d - 1))) hn
    have : n ≤ d * n := Nat.le_mul_of_pos_left n hd
    omega
/-- The parts of all volumes. -/
def fullF (b : List Int) (d r : Nat) : List (List Int) := cutF b d (sizeF b.length d) ++ recF (cutF b d (sizeF b.length d)) r (sizeF b.length d)
def splitF (b : List Int) (d r : Nat) : List (List Int) := (List.range (d + r)).map fun (i : Nat) => volF [(sumI b : Int), (i : Int), (d : Int), (r : Int), (b.length : Int)] ((fullF b d r).getD i [])
theorem cutF_wide (b : List Int) (d s : Nat) (h : b.length ≤ d * s) : Wide (cutF b d s) s := fun l hl => by
  unfold cutF at hl
  obtain ⟨i, hi, rfl⟩ := List.mem_map.1 hl
  exact cutR_len b d s i h (by simpa using hi)
theorem padF_bytes {b : List Int} (hb : Bytes b) (N : Nat) : Bytes (padF b N) := bytes_append hb (fun x hx => by have := List.eq_of_mem_replicate hx; omega)
theorem cutF_bytes {b : List Int} (hb : Bytes b) (d s : Nat) : ∀ l ∈ cutF b d s, Bytes l := fun l hl => by
  unfold cutF at hl
  obtain ⟨i, hi, rfl⟩ := List.mem_map.1 hl
  exact fun x hx => padF_bytes hb _ x (List.mem_of_mem_drop (List.mem_of_mem_take hx))
theorem recF_wide (P : List (List Int)) (r s : Nat) : Wide (recF P r s) s := fun l hl => by
  unfold recF at hl
  obtain ⟨row, -, rfl⟩ := List.mem_map.1 hl
  exact combK_len _ _ _ _
theorem recF_bytes {P : List (List Int)} (hP : ∀ l ∈ P, Bytes l) (r s : Nat) : ∀ l ∈ recF P r s, Bytes l := fun l hl => by
  unfold recF at hl
  obtain ⟨row, hrow, rfl⟩ := List.mem_map.1 hl
  exact combK_bytes hP _ (by rw [recrow_wide P.length r row hrow]; exact Nat.le_refl _)
theorem recF_len (P : List (List Int)) (r s : Nat) : (recF P r s).length = r := by unfold recF; rw [List.length_map, List.length_drop, matF_len]; omega
theorem fullF_len (b : List Int) (d r : Nat) : (fullF b d r).length = d + r := by unfold fullF; rw [List.length_append, cutF_len, recF_len]
theorem fullF_wide (b : List Int) (d r : Nat) (hd : 1 ≤ d) : Wide (fullF b d r) (sizeF b.length d) := fun l hl => by
  rcases List.mem_append.1 hl with h | h
  · exact cutF_wide b d _ (sizeF_ge _ _ hd) l h
  · exact recF_wide _ _ _ l h
theorem fullF_bytes {b : List Int} (hb : Bytes b) (d r : Nat) : ∀ l ∈ fullF b d r, Bytes l := fun l hl => by
  rcases List.mem_append.1 hl with h | h
  · exact cutF_bytes hb _ _ l h
  · exact recF_bytes (cutF_bytes hb _ _) _ _ l h
theorem splitF_take (b : List Int) (d r k : Nat) (hk : k < d + r) : (splitF b d r).take (k + 1) = (splitF b d r).take k ++ [volF [(sumI b : Int), (k : Int), (d : Int), (r : Int), (b.length : Int)] ((fullF b d r).getD k [])] := by
  unfold splitF
  rw [List.take_add_one, List.getElem?_map, List.getElem?_range hk]
  rfl
theorem splitF_len (b : List Int) (d r : Nat) : (splitF b d r).length = d + r := by simp [splitF]
/-- Two lists of byte strings behind one another. -/
theorem rdC_two {w : World} {vs1 vs2 : List Value} {L1 L2 : List (List Int)} (h1 : RdC w vs1 (L1.map bs)) (h2 : RdC w vs2 (L2.map bs)) : RdC w (vs1 ++ vs2) ((L1 ++ L2).map bs) := by
  have l1 := h1.1
  have l2 := h2.1
  refine ⟨by simp at l1 l2 ⊢; omega, fun i u C hv hc => ?_⟩
  rw [List.map_append] at hc
  by_cases hi : i < vs1.length
  · rw [List.getElem?_append_left hi] at hv
    rw [List.getElem?_append_left (by omega)] at hc
    exact h1.2 i u C hv hc
  · rw [List.getElem?_append_right (by omega)] at hv
    rw [List.getElem?_append_right (by omega)] at hc
    rw [show i - (L1.map bs).length = i - vs1.length by omega] at hc
    exact h2.2 _ u C hv hc
theorem rl_one {w : World} {L : List (List Int)} {vs : List Value} (h : RdC w vs (L.map bs)) : ∀ u ∈ vs, u.oneCell' = true := fun u hu => by
  obtain ⟨i, hi, rfl⟩ := List.mem_iff_getElem.1 hu
  have hl := h.1
  simp at hl
  have hr := h.2 i _ _ (List.getElem?_eq_getElem hi) (by rw [List.getElem?_map, List.getElem?_eq_getElem (by omega)]; rfl)
  obtain ⟨a, c, e, -⟩ := Rd.shape hr
  rw [e]
  rfl
set_option maxRecDepth 100000 in
set_option maxHeartbeats 2000000 in
theorem split_any (d r : Nat) (h1d : 1 ≤ d) (hdr : d + r ≤ 64) (v : Value) (b : List Int) (hb : Bytes b) (hn : b.length ≤ 1000) (w : World) (hr : Rd8 w v b) :
    Calls Try.prog 5 #[v, .int .i64 (d : Int), .int .i64 (r : Int)] w fun e w' => ∃ v', e = .returned (.tuple #[v', .int .i64 0]) ∧ OL w' w.heap.size v' (splitF b d r) ∧ Ext w w' := by
  obtain ⟨ad, cap, rfl, -⟩ := Rd.shape hr
  have hsge := sizeF_ge b.length d h1d
  have hsp := sizeF_pos b.length d
  have hsl := sizeF_le b.length d h1d 1000 (by omega) hn
  have hfl := fullF_len b d r
  have hfw := fullF_wide b d r h1d
  have hfb := fullF_bytes hb d r
  have hfe : fullF b d r = cutF b d (sizeF b.length d) ++ recF (cutF b d (sizeF b.length d)) r (sizeF b.length d) := rfl
  have htk := splitF_take b d r
  have hcw := cutF_wide b d _ hsge
  have hcb := cutF_bytes hb d (sizeF b.length d)
  have hszn := fun W => size_any b.length d (by omega) (by omega) (by omega) W
  obtain ⟨s, hs⟩ : ∃ s, sizeF b.length d = s := ⟨_, rfl⟩
  rw [hs] at hsge hsp hsl hfw hfe hcw hcb
  simp only [hs] at hszn
  have hcut := fun W h => cut_any d s h1d (by omega) hsp hsl (.slice ad b.length cap) b hsge W h
  have hrec := fun W v (h : RL W v (cutF b d s)) => recovery_any d r s h1d hdr hsp hsl v (cutF b d s) (cutF_len b d s) hcw hcb W h
  have hsum := fun W h => sum_any (.slice ad b.length cap) b hb (by omega) W h
  have hslt : sumI b < 4294967296 := sumI_lt _
  obtain ⟨S, hS⟩ : ∃ S, sumI b = S := ⟨_, rfl⟩
  rw [hS] at hslt
  simp only [hS] at htk hsum
  have hput := fun (i : Nat) (hi : i ≤ 64) vp part (hpb : Bytes part) (hpn : part.length ≤ 1000) W h => put_any S i d r b.length hslt vp part (hdB_bytes _ (fun n hn' => by
    simp at hn'
    rcases hn' with rfl | rfl | rfl | rfl | rfl <;> omega)) hpb (by omega) W h
  obtain ⟨n, hne⟩ : ∃ n, b.length = n := ⟨_, rfl⟩
  rw [hne] at hn hr hsge ⊢
  simp only [hne] at hszn hcut hsum hput htk
  have k1 : ¬ (65536 : Int) < (n : Int) := by omega
  have k2 : ¬ (d : Int) < 1 := by omega
  have k3 : ¬ (64 : Int) < (d : Int) := by omega
  have k4 : ¬ (r : Int) < 0 := by omega
  have k5 : IntKind.i64.wrap (64 - (d : Int)) = 64 - (d : Int) := IntWalk.i64_in _ (by omega)
  have k6 : ¬ 64 - (d : Int) < (r : Int) := by omega
  replace hszn := hidden hszn
  replace hcut := hidden hcut
  replace hrec := hidden hrec
  replace hsum := hidden hsum
  replace hput := hidden hput
  replace htk := hidden htk
  replace hr := hidden hr
  replace hfe := hidden hfe
  replace hfw := hidden hfw
  replace hfb := hidden hfb
  replace hcw := hidden hcw
  replace hcb := hidden hcb
  replace hS := hidden hS
  replace hs := hidden hs
  go_enter Try.func5, Try.ntmps5
  go_wp2_with (go_at_call 13; refine (hszn.out _).mono ?_; rintro e w2 ⟨rfl, hww⟩; rw [hww]; clear hww)
  refine (hcut.out _ hr.out).mono ?_
  rintro e w1 ⟨v1, rfl, hO1, hX1⟩
  obtain ⟨a1, c1, hve, -, -⟩ := hO1.shape
  rw [cutF_len] at hve
  subst hve
  have hrc := hrec.out w1 _ hO1.rl
  replace hrc := hidden hrc
  replace hO1 := hidden hO1
  replace hX1 := hidden hX1
  clear hcut hrec hszn k1 k2 k3 k4 k5 k6
  go_wp2_with fail
  refine hrc.out.mono ?_
  rintro e w2 ⟨v2, rfl, hO2, hX2⟩
  obtain ⟨a2, c2, hve, -, -⟩ := hO2.shape
  rw [recF_len] at hve
  subst hve
  have hX02 : Ext w w2 := hX1.out.trans hX2
  have hsm := hsum.out w2 (hr.out.ext hX02)
  replace hsm := hidden hsm
  replace hO2 := hidden hO2
  replace hX2 := hidden hX2
  replace hX02 := hidden hX02
  clear hrc hsum
  go_wp2_with fail
  refine hsm.out.mono ?_
  rintro e w3 ⟨rfl, hX3⟩
  obtain ⟨vs1, h1r, h1c⟩ := hO1.out.rl
  obtain ⟨vs2, h2r, h2c⟩ := hO2.out.rl
  have l1 : vs1.length = d := by have := h1c.1; rw [List.length_map, cutF_len] at this; exact this
  have l2 : vs2.length = r := by have := h2c.1; rw [List.length_map, recF_len] at this; exact this
  rw [cutF_len] at h1r
  rw [recF_len] at h2r
  have hX13 : Ext w1 w3 := hX2.out.trans hX3
  have hC3 : Hid (RdC w3 (vs1 ++ vs2) ((fullF b d r).map bs)) := hidden (by rw [hfe.out]; exact rdC_two (h1c.ext hX13) (h2c.ext hX3))
  have hone : ∀ u ∈ vs1 ++ vs2, u.oneCell' = true := rl_one hC3.out
  have hX03 : Ext w w3 := hX02.out.trans hX3
  obtain ⟨h0, hh0⟩ : ∃ x, w3.heap.size = x := ⟨_, rfl⟩
  have b4 : Blk (w3.alloc (.cells #[.int .u32 (S : Int), .int .i64 0, .int .i64 (d : Int), .int .i64 (r : Int), .int .i64 (n : Int)] 47)) h0 47 [.int .u32 (S : Int), .int .i64 0, .int .i64 (d : Int), .int .i64 (r : Int), .int .i64 (n : Int)] := blk_newAt' w3 _ _ h0 hh0
  have hX4 : Ext w3 (w3.alloc (.cells #[.int .u32 (S : Int), .int .i64 0, .int .i64 (d : Int), .int .i64 (r : Int), .int .i64 (n : Int)] 47)) := (Ext.refl w3).alloc _
  go_upto_region 10 with fail
  obtain ⟨w4, hw4⟩ : ∃ X, w3.alloc (.cells #[.int .u32 (S : Int), .int .i64 0, .int .i64 (d : Int), .int .i64 (r : Int), .int .i64 (n : Int)] 47) = X := ⟨_, rfl⟩
  rw [hw4] at b4 hX4 ⊢
  clear hw4
  have hX5 : Ext w3 (w4.alloc (.cells #[.slice a1 d c1, .slice a2 r c2] 26)) := hX4.alloc _
  have hVS : Rd (w4.alloc (.cells #[.slice a1 d c1, .slice a2 r c2] 26)) 1 (.slice (some ⟨w4.heap.size, 0, none⟩) 2 2) 2 [.slice a1 d c1, .slice a2 r c2] := rd_of_blkS (Blk.new w4 [.slice a1 d c1, .slice a2 r c2] 26) rfl (by omega)
  have hRC : RdC (w4.alloc (.cells #[.slice a1 d c1, .slice a2 r c2] 26)) [.slice a1 d c1, .slice a2 r c2] [vs1, vs2] := ⟨rfl, fun i u C hu hC => by
    match i with
    | 0 => simp at hu hC; subst hu hC; rw [l1]; exact (h1r.ext hX13).ext hX5
    | 1 => simp at hu hC; subst hu hC; rw [l2]; exact (h2r.ext hX3).ext hX5
    | i + 2 => simp at hu⟩
  have hfla : [vs1, vs2].flatten = vs1 ++ vs2 := by simp
  have hcc := concatS_any (.slice (some ⟨w4.heap.size, 0, none⟩) 2 2) _ _ (by rw [hfla, List.length_append]; omega) (by simp) _ hVS hRC (fun C hC u hu => by
    simp at hC
    rcases hC with rfl | rfl
    · exact hone u (List.mem_append.2 (Or.inl hu))
    · exact hone u (List.mem_append.2 (Or.inr hu)))
  rw [hfla] at hcc
  obtain ⟨vs, hvs⟩ : ∃ x, vs1 ++ vs2 = x := ⟨_, rfl⟩
  obtain ⟨N, hN⟩ : ∃ x, d + r = x := ⟨_, rfl⟩
  have hvl : vs.length = N := by rw [← hvs, List.length_append]; omega
  rw [hvs, hvl] at hcc
  rw [hvs] at hC3
  have hb45 : Blk (w4.alloc (.cells #[.slice a1 d c1, .slice a2 r c2] 26)) h0 47 [.int .u32 (S : Int), .int .i64 0, .int .i64 (d : Int), .int .i64 (r : Int), .int .i64 (n : Int)] := b4.alloc _
  have hlt5 : h0 < (w4.alloc (.cells #[.slice a1 d c1, .slice a2 r c2] 26)).heap.size := hb45.lt
  replace hcc := hidden hcc
  replace hb45 := hidden hb45
  replace hX5 := hidden hX5
  replace hX03 := hidden hX03
  rw [hN] at hfl hdr
  simp only [hN] at htk
  clear hVS hRC hfla h1r h2r h1c h2c hX13 hO1 hO2 hX1 hX2 hX02 hX3 hX4 b4 hone hvs hsm hr
  go_wp2_with fail
  refine hcc.out.mono ?_
  rintro e w5 ⟨v5, rfl, hO5, hX6⟩
  obtain ⟨a5, c5, rfl, -⟩ := Rd.shape (Rd.of_own hO5)
  have hX35 : Ext w3 w5 := hX5.out.trans hX6
  have b5 := hb45.out.ext hX6
  have hB5 := hX6.size
  have hv5 : Hid (∀ g, (Value.slice a5 N c5).ownBlock = some g → g < w5.heap.size) := hidden (fun g hg => (own_lt hO5 hg).2)
  have hO5' : Hid (w5.ownsRow (h0 + 1) 22 1 (.slice a5 N c5) N vs) := hidden (own_base hO5 hlt5)
  replace b5 := hidden b5
  replace hX35 := hidden hX35
  clear hO5 hX6 hcc hb45 hX5
  go_upto_region 12 with fail
  go_loopw [12, 63] (fun u i wr => ∃ (k : Nat) (j : Int), i = .int .i64 (k : Int) ∧ k ≤ N ∧ w5.heap.size ≤ wr.heap.size ∧ Hid (OLF wr w5.heap.size u ((splitF b d r).take k)) ∧ Hid (Ext w3 wr) ∧ Hid (Blk wr h0 47 [.int .u32 (S : Int), .int .i64 j, .int .i64 (d : Int), .int .i64 (r : Int), .int .i64 (n : Int)]) ∧ Hid (wr.ownsRow (h0 + 1) 22 1 (.slice a5 N c5) N vs)) (fun _ i _ => N - (intOf i).toNat)
  case atStart => exact ⟨0, 0, rfl, by omega, Nat.le_refl _, hidden (OLF.nil _ _), hX35, b5, hO5'⟩
  case round =>
    obtain ⟨k, j, rfl, hk, hsz, hO, hX, hB, hV⟩ := hrel
    have v1 : IntKind.i64.wrap ((k : Int) + 1) = (k : Int) + 1 := IntWalk.i64_in _ (by omega)
    obtain ⟨w6, hWW⟩ : ∃ X, X = wr := ⟨_, rfl⟩
    subst hWW
    by_cases hlt : k < N
    · have hlt2 : (k : Int) < (N : Int) := by omega
      have hr3 : Rd8 w3 (vs.getD k undef) ((fullF b d r).getD k []) := by
        have e3 : (fullF b d r)[k]? = some ((fullF b d r).getD k []) := by simp [List.getD, show k < (fullF b d r).length by omega]
        have := hC3.out.2 k (vs.getD k undef) (bs ((fullF b d r).getD k [])) (by simp [List.getD, show k < vs.length by omega]) (by rw [List.getElem?_map, e3]; rfl)
        rw [bs_len] at this
        exact this
      obtain ⟨a7, c7, he⟩ := rd8_one hr3
      obtain ⟨b', off', rfl, -, hcell⟩ := (Rd.of_own hV.out).cells (by omega)
      have cR := hcell k (by omega)
      rw [he] at cR hr3
      clear hcell he
      have hrw := hfw.out.at (show k < (fullF b d r).length by omega)
      have hrb := hfb.out _ (getD_mem (show k < (fullF b d r).length by omega) [])
      have ht := htk.out k hlt
      rw [hrw] at cR hr3
      obtain ⟨D, hD⟩ : ∃ D, (fullF b d r).getD k [] = D := ⟨_, rfl⟩
      rw [hD] at hr3 hrw hrb ht
      have ci := hB.out.cell 1 _ rfl
      have fi := hB.out.frozen 1
      have hB2 := hB.out.set 1 (.int .i64 (k : Int))
      have hC2 : Chg [h0] w6 (w6.setCell ⟨h0, 1, none⟩ (.int .i64 (k : Int))) := (Chg.refl [h0] w6).setCell (Or.inl (by simp)) _
      have hX2 : Ext w3 (w6.setCell ⟨h0, 1, none⟩ (.int .i64 (k : Int))) := Chg.ext ((Chg.of_ext [] hX.out).trans hC2 (fun x hx => Or.inr (by simp at hx; omega)))
      have hV2 := own_chg hV.out hC2 (fun x hx e => by have := (own_lt hV.out e).1; simp at hx; omega)
      have hO2 := hO.out.chg_lt hC2 (fun x hx => by simp at hx; omega)
      have hrd2 : Rd8 (w6.setCell ⟨h0, 1, none⟩ (.int .i64 (k : Int))) (.slice a7 s c7) D := hr3.ext hX2
      have hp := hput.out k (by omega) (.slice a7 s c7) D hrb (by omega) _ hrd2
      have hi47 : (Try.prog.info? 47).map (·.size) = some 5 := by kernel_rfl
      have hLl := take_len (splitF_len b d r) (show k ≤ d + r by omega)
      have hvl2 := volF_len [(S : Int), (k : Int), (d : Int), (r : Int), (n : Int)] D
      have hhl := hdB_len [(S : Int), (k : Int), (d : Int), (r : Int), (n : Int)]
      simp only [List.length_cons, List.length_nil] at hhl
      obtain ⟨w7, hw7⟩ : ∃ X, w6.setCell ⟨h0, 1, none⟩ (.int .i64 (k : Int)) = X := ⟨_, rfl⟩
      obtain ⟨V, hV9⟩ : ∃ V, volF [(S : Int), (k : Int), (d : Int), (r : Int), (n : Int)] D = V := ⟨_, rfl⟩
      obtain ⟨m, hm⟩ : ∃ m, V.length = m := ⟨_, rfl⟩
      rw [hV9] at hp ht hvl2
      rw [hm] at hvl2
      have hm9 : ¬ (65536 : Int) < (m : Int) := by omega
      obtain ⟨L, hLe⟩ : ∃ L, (splitF b d r).take k = L := ⟨_, rfl⟩
      rw [hLe] at hO2 hLl ht
      rw [hw7] at hp hB2 hC2 hX2 hV2 hO2
      have hl7 : w7.heap[h0]? = some (.cells #[.int .u32 (S : Int), .int .i64 (k : Int), .int .i64 (d : Int), .int .i64 (r : Int), .int .i64 (n : Int)] 47 (0, 0)) := hB2
      have hs7 : w5.heap.size ≤ w7.heap.size := by have := hC2.size; omega
      have hw7' : Hid (w6.setCell ⟨h0, 1, none⟩ (.int .i64 (k : Int)) = w7) := hidden hw7
      replace hp := hidden hp
      replace hl7 := hidden hl7
      replace hX2 := hidden hX2
      replace hV2 := hidden hV2
      replace hO2 := hidden hO2
      replace ht := hidden ht
      replace hm := hidden hm
      clear hw7 hrd2 hrb hrw hD hr3 hO hX hB hV hB2 hC2 hhl hvl2 hV9 hLe
      go_upto_region 15 with fail
      rw [hw7'.out]
      go_wp2_with (refine wpList_load_row rfl 47 (.tmp 11) rfl h0 rfl 47 #[.int .u32 (S : Int), .int .i64 (k : Int), .int .i64 (d : Int), .int .i64 (r : Int), .int .i64 (n : Int)] (0, 0) _ hl7.out Try.underlying47 rfl hi47 ?_)
      refine hp.out.mono ?_
      rintro e w8 ⟨v8, rfl, hO8, hX8⟩
      obtain ⟨ua, uc, rfl⟩ := rd8_one hO8.rd
      rw [hm.out] at hO8 ⊢
      have hB8 : Blk w8 h0 47 [.int .u32 (S : Int), .int .i64 (k : Int), .int .i64 (d : Int), .int .i64 (r : Int), .int .i64 (n : Int)] := Blk.ext (show Blk w7 h0 47 _ from hl7.out) hX8
      replace hO8 := hidden hO8
      replace hX8 := hidden hX8
      replace hB8 := hidden hB8
      clear hp ci fi cR
      go_wp2_with (at_builtin; refine wpList_append_freshF rfl _ _ rfl w5.heap.size w7 w8 u12 L rfl hO2.out hs7 hX8.out ua m uc V hO8.out rfl (by omega) ?_; intro v9 w9 hown hC9 hge9)
      have hsz9 := hC9.size
      have hnB : ∀ x ∈ u12.ownBlock.toList, w5.heap.size ≤ x := fun x hx => hge9 x (by simpa using hx)
      refine ⟨⟨k + 1, k, by go_num, by omega, by omega, hidden (by rw [ht.out]; exact hown), hidden (Chg.ext ((Chg.of_ext [] hX2.out).trans hC9 (fun x hx => Or.inr (by have := hnB x hx; omega)))), hidden ?_, hidden (own_chg hV2.out hC9 (fun x hx e => ?_))⟩, by simp [intOf]; omega⟩
      · exact Blk.chg (show Blk w7 h0 47 _ from hl7.out) hC9 (fun h => by have := hnB _ h; omega)
      · have y1 := hv5.out x e
        have y2 := hnB x hx
        omega
    · have hke : k = N := by omega
      have hO2 := hO.out.ol
      rw [hke, List.take_of_length_le (by rw [splitF_len]; omega)] at hO2
      have hk8 : decide ((k : Int) < (N : Int)) = false := decide_eq_false (by omega)
      have hXf : Hid (Ext w w6) := hidden (hX03.out.trans hX.out)
      have hbs : w.heap.size ≤ w5.heap.size := (hX03.out.trans hX35.out).size
      replace hO2 := hidden hO2
      clear hO hke
      go_wp2_with fail
      refine bodyPost_ret (results_tmp2 rfl _ _ _) rfl ?_
      exact ⟨_, rfl, hO2.out.base hbs, hXf.out⟩
end Go.Proofs.Ytpfelklhejpnnaa
