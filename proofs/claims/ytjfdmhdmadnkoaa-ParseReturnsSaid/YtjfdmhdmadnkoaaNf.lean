/- Layer 36: Choices and the cheapest choice, of the reference. -/
import Derived.Test.YtjfdmhdmadnkoaaNd
import Derived.Test.YtjfdmhdmadnkoaaLu
namespace Go.Proofs.Ytjfdmhdmadnkoaa
open Go.RowKit
set_option linter.unusedVariables false
attribute [local go_sem ↓] Go.wp_at_zero Go.wp_at_succ

theorem ownT_one (w : World) (t : Int × Int × Int) : OwnT (w.alloc (.cells (tkc t).toArray 60)) w.heap.size (.slice (some ⟨w.heap.size, 0, none⟩) 1 1) [t] := by
  unfold OwnT
  rw [show List.flatMap tkc [t] = tkc t by simp]
  exact ⟨rfl, .inr ⟨w.heap.size, 1, (tkc t).toArray, rfl, Nat.le_refl _, heap_alloc_new w _, Nat.le_refl _, by unfold maxLen; omega, rfl, rfl⟩⟩

set_option maxRecDepth 100000 in
set_option maxHeartbeats 2000000 in
theorem rchoices_good (v : Value) (D : List Int) (a : Nat) (hb : Bytes D) (ha : a < D.length) (hl : D.length ≤ 65536) (w : World) (h : Rd8 w v D) :
    Calls Try.prog 12 #[v, .int .i64 (a : Int)] w (DePost w (0, chF D a)) := by
  obtain ⟨ad, cap, rfl, q1, q2, q3⟩ := Rd.shape h
  obtain ⟨bb, off, hab, -, -⟩ := Rd.cells h (by omega)
  subst hab
  have hC := fun (d : Nat) (h1 : 1 ≤ d) (hd : d ≤ a) W' (hW : Rd8 W' _ D) => rcommon_any (.slice (some ⟨bb, off, none⟩) D.length cap) D a d hb h1 hd ha hl W' hW
  have cA := Rd8.at h a ha
  have hO0 := ownT_one w (0, 0, D.getD a 0)
  change OwnT _ _ _ (chA D a 0) at hO0
  change OwnT (w.alloc (.cells #[.int .i64 0, .int .i64 0, .int .u8 (D.getD a 0)] 60)) _ _ _ at hO0
  have hl0 : (chA D a 0).length = 1 := rfl
  obtain ⟨y, hy⟩ : ∃ y, D.getD a 0 = y := ⟨_, rfl⟩
  rw [hy] at cA hO0
  obtain ⟨K, hK0⟩ : ∃ K, min 4096 a = K := ⟨_, rfl⟩
  have hcf : Hid (chF D a = chA D a K) := hidden (by unfold chF; rw [hK0])
  have hK1 : K ≤ 4096 ∧ K ≤ a ∧ (K = 4096 ∨ K = a) := by omega
  obtain ⟨m, hm⟩ : ∃ m, D.length = m := ⟨_, rfl⟩
  have haI : (a : Int) < (m : Int) := by omega
  have haI0 : (0 : Int) ≤ (a : Int) := by omega
  have hR : Hid (Rd8 w (.slice (some ⟨bb, off, none⟩) m cap) D) := hidden (by rw [← hm]; exact h)
  rw [hm] at q1 hC ha hl ⊢
  obtain ⟨hK2, hK3, hK4⟩ := hK1
  replace hK4 := hidden hK4
  replace hC := hidden hC
  replace hO0 := hidden hO0
  replace hl0 := hidden hl0
  clear h hm hy hK0
  have t0 : decide ((a : Int) < 0) = false := by simp
  have t1 : decide (m ≤ a) = false := by simp; omega
  go_enter Try.func12, Try.ntmps12
  go_wp2_with fail
  go_loopw [6, 7] (fun s i wr => ∃ (k q : Nat) (ad5 : Option Addr) (c5 : Nat), s = .slice ad5 q c5 ∧ i = .int .i64 ((k : Int) + 1) ∧ k ≤ K ∧ Hid ((chA D a k).length = q) ∧ Hid (OwnT wr w.heap.size (.slice ad5 q c5) (chA D a k)) ∧ Ext w wr) (fun _ i _ => K + 1 - (intOf i).toNat)
  case atStart => exact ⟨0, 1, _, 1, rfl, rfl, by omega, hl0, hO0, (Ext.refl w).alloc _⟩
  case round =>
    obtain ⟨k, q, ad5, c5, rfl, rfl, hk, hq, hO, hX⟩ := hrel
    obtain ⟨W, hWW⟩ : ∃ Z, Z = wr := ⟨_, rfl⟩
    subst hWW
    by_cases hlt : k < K
    · have b1 : (k : Int) + 1 ≤ 4096 := by omega
      have b2 : (k : Int) + 1 ≤ (a : Int) := by omega
      have hR1 : Rd8 W (.slice (some ⟨bb, off, none⟩) m cap) D := Rd.ext hR.out hX
      have hc1 := hC.out (k + 1) (by omega) (by omega)
      obtain ⟨L, hL⟩ : ∃ L, lnT D a (k + 1) = L := ⟨_, rfl⟩
      have hL1 := lnT_le D a (k + 1)
      rw [hL] at hc1 hL1
      obtain ⟨hL2, -⟩ := hL1
      obtain ⟨T, hT⟩ : ∃ T, L - (chA D a k).length = T := ⟨_, rfl⟩
      have hnx : Hid (chA D a (k + 1) = chP (chA D a k) (k + 1) T) := hidden (by rw [chP_full, hL, hT])
      have hO1 := chA_bd D a k
      have hO2 := chA_pos D a k
      rw [hq.out] at hT hO1 hO2
      have hT2 : (T = L - q) := by omega
      rw [Int.natCast_add, Int.natCast_one] at hc1
      replace hc1 := hidden hc1
      replace hT2 := hidden hT2
      clear hT hL
      go_wp2_with fail
      refine (hc1.out _ hR1).mono ?_
      rintro e w3 ⟨rfl, g3⟩
      have hX3 := hX.trans g3
      have hO3 : Hid (OwnT w3 w.heap.size (.slice ad5 q c5) (chP (chA D a k) (k + 1) 0)) := hidden (by unfold chP; simp; exact own_ext hO.out g3)
      clear hR1 hO g3
      go_wp2_with fail
      go_loopw [6, 8] (fun s n wr => ∃ (i : Nat) (ad6 : Option Addr) (c6 : Nat), s = .slice ad6 (q + i) c6 ∧ n = .int .i64 (L : Int) ∧ i ≤ T ∧ Hid (OwnT wr w.heap.size (.slice ad6 (q + i) c6) (chP (chA D a k) (k + 1) i)) ∧ Ext w wr) (fun s _ _ => match s with | .slice _ n _ => 257 - n | _ => 0)
      case atStart => exact ⟨0, _, _, rfl, rfl, by omega, hO3, hX3⟩
      case round =>
        clear hO3 hX3 hX
        obtain ⟨i, ad6, c6, rfl, rfl, hi, hO, hX⟩ := hrel
        obtain ⟨W2, hWW⟩ : ∃ Z, Z = wr := ⟨_, rfl⟩
        subst hWW
        have hT3 := hT2.out
        have hR1 : Rd8 W2 (.slice (some ⟨bb, off, none⟩) m cap) D := Rd.ext hR.out hX
        by_cases hit : i < T
        · have l1 : (2 : Int) ≤ (L : Int) := by omega
          have l2 : q + i < L := by omega
          have hqi : (chP (chA D a k) (k + 1) i).length = q + i := by rw [chP_len, hq.out]
          have hsn : Hid (chP (chA D a k) (k + 1) i ++ [(((q + i : Nat) : Int) + 1, (k : Int) + 1, 0)] = chP (chA D a k) (k + 1) (i + 1)) := hidden (by rw [chP_succ, hq.out]; congr 1; simp; omega)
          have hO' : OwnT (W2.alloc (.cells #[.int .i64 (((q + i : Nat) : Int) + 1), .int .i64 ((k : Int) + 1), .int .u8 0] 60)) w.heap.size (.slice ad6 (q + i) c6) (chP (chA D a k) (k + 1) i) := OwnT.alloc hO.out _
          have hnew := Blk.new W2 [.int .i64 (((q + i : Nat) : Int) + 1), .int .i64 ((k : Int) + 1), .int .u8 0] 60
          have hs2 : w.heap.size ≤ (W2.alloc (.cells #[.int .i64 (((q + i : Nat) : Int) + 1), .int .i64 ((k : Int) + 1), .int .u8 0] 60)).heap.size := by rw [World.size_alloc]; have := hX.size; omega
          replace hO' := hidden hO'
          replace hnew := hidden hnew
          replace hqi := hidden hqi
          clear hT3 hR1
          obtain ⟨qi, hqie⟩ : ∃ x, q + i = x := ⟨_, rfl⟩
          rw [hqie] at hO' hnew hqi hs2 hsn hO l2 ⊢
          have hqi3 : qi ≤ 255 := by omega
          replace hqie := hidden hqie
          go_wp2_with (at_builtin; refine wpList_appendT (by rfl) _ _ (by rfl) w.heap.size (.slice ad6 qi c6) (chP (chA D a k) (k + 1) i) ((qi : Int) + 1, (k : Int) + 1, 0) W2.heap.size hO'.out (by rfl) (by rfl) hnew.out (by rw [hqi.out]; omega) hs2 ?_; rw [hqi.out, hsn.out]; intro g cap' w4 hO4 hg4 hat4 hlt4; have hO4h := hidden hO4; clear hO4)
          have hX5 : Ext w w4 := ownT_ext1 hX _ hO.out hg4
          have hR5 : Rd8 w4 (.slice (some ⟨bb, off, none⟩) m cap) D := Rd.ext hR.out hX5
          go_wp2_with fail
          refine (hc1.out _ hR5).mono ?_
          rintro e w5 ⟨rfl, g5⟩
          go_wp2_with fail
          go_round
          case rel => exact ⟨i + 1, _, _, by have := hqie.out; rw [← this, Nat.add_assoc], rfl, by omega, hidden (by have := own_ext hO4h.out g5; rw [← hqie.out, Nat.add_assoc] at this; exact this), hX5.trans g5⟩
          case measure => show 257 - (qi + 1) < 257 - qi; omega
        · have hiT : i = T := by omega
          have hfin : Hid (chP (chA D a k) (k + 1) i = chA D a (k + 1)) := hidden (by rw [hnx.out, hiT])
          have hO' := hO.out
          rw [hfin.out] at hO'
          replace hO' := hidden hO'
          have hqn : Hid ((chA D a (k + 1)).length = q + i) := hidden (by rw [← hfin.out, chP_len, hq.out])
          replace hiT := hidden hiT
          clear hR1
          by_cases l1 : (2 : Int) ≤ (L : Int)
          · have l2 : ¬ q + i < L := by have := hiT.out; omega
            clear hT3
            go_wp2_with fail
            go_round
            case rel => exact ⟨k + 1, _, _, _, rfl, by go_num, by omega, hqn, hO', hX⟩
            case measure => simp [intOf]; omega
          · clear hT3
            go_wp2_with fail
            go_round
            case rel => exact ⟨k + 1, _, _, _, rfl, by go_num, by omega, hqn, hO', hX⟩
            case measure => simp [intOf]; omega
    · have hO2 := hO.out
      rw [show k = K by omega, ← hcf.out] at hO2
      replace hO2 := hidden hO2
      by_cases e1 : (k : Int) + 1 ≤ 4096
      · have e2 : ¬ (k : Int) + 1 ≤ (a : Int) := by have := hK4.out; omega
        go_wp2_with fail
        go_ret2
        exact ⟨_, rfl, hO2.out, hX⟩
      · go_wp2_with fail
        go_ret2
        exact ⟨_, rfl, hO2.out, hX⟩

set_option maxHeartbeats 2000000 in
theorem rchoices_any (v : Value) (D : List Int) (a : Int) (hb : Bytes D) (ha0 : -9223372036854775808 ≤ a) (ha1 : a ≤ 9223372036854775807) (hl : D.length ≤ 9223372036854775807) (w : World) (h : Rd8 w v D) :
    Calls Try.prog 12 #[v, .int .i64 a] w (DePost w (chE D a)) := by
  by_cases k1 : 65536 < D.length
  · rw [show chE D a = (5, []) by unfold chE; rw [if_pos k1]]
    obtain ⟨ad, cap, rfl, q1, q2, q3⟩ := Rd.shape h
    clear h hb
    go_enter Try.func12, Try.ntmps12
    go_wp2_with fail
    go_ret2
    exact ⟨_, rfl, OwnT.nil _ _, Ext.refl _⟩
  · by_cases k2 : a < 0
    · rw [show chE D a = (2, []) by unfold chE; rw [if_neg k1, if_pos (Or.inl k2)]]
      obtain ⟨ad, cap, rfl, q1, q2, q3⟩ := Rd.shape h
      clear h hb
      go_enter Try.func12, Try.ntmps12
      go_wp2_with fail
      go_ret2
      exact ⟨_, rfl, OwnT.nil _ _, Ext.refl _⟩
    · by_cases k3 : (D.length : Int) ≤ a
      · rw [show chE D a = (2, []) by unfold chE; rw [if_neg k1, if_pos (Or.inr k3)]]
        obtain ⟨ad, cap, rfl, q1, q2, q3⟩ := Rd.shape h
        clear h hb
        go_enter Try.func12, Try.ntmps12
        go_wp2_with fail
        go_ret2
        exact ⟨_, rfl, OwnT.nil _ _, Ext.refl _⟩
      · rw [show chE D a = (0, chF D a.toNat) by unfold chE; rw [if_neg k1, if_neg (by omega)]]
        have := rchoices_good v D a.toNat hb (by omega) (by omega) w h
        rw [Int.toNat_of_nonneg (by omega)] at this
        exact this
end Go.Proofs.Ytjfdmhdmadnkoaa

/- Layer 36: the cheapest choice, of the reference. -/
namespace Go.Proofs.Ytjfdmhdmadnkoaa
open Go.RowKit
set_option linter.unusedVariables false
attribute [local go_sem ↓] Go.wp_at_zero Go.wp_at_succ

/-- The cheapest of the first ones. -/
def bes (P : List Int) (a : Nat) (l : List (Int × Int × Int)) (k : Nat) : Int × (Int × Int × Int) := if k = 0 then (0, (0, 0, 0)) else beL P a (l.take k)
theorem bes_step {P : List Int} (hP : NN P) (a : Nat) {l : List (Int × Int × Int)} {k : Nat} {t : Int × Int × Int} (h : l[k]? = some t) :
    bes P a l (k + 1) = if k = 0 ∨ ctP P a t ≤ (bes P a l k).1 then (ctP P a t, t) else bes P a l k := by
  unfold bes
  rw [if_neg (by omega), take_at h, beL_snoc]
  unfold bsP
  by_cases h0 : k = 0
  · subst h0
    rw [if_pos (Or.inl (by simp [beL])), if_pos (Or.inl rfl)]
  · rw [if_neg h0]
    have hk : k < l.length := (List.getElem?_eq_some_iff.1 h).1
    have := (beL_spec hP a (l.take k) (by intro e; have := congrArg List.length e; rw [List.length_take, List.length_nil] at this; omega)).2.2.1
    by_cases h1 : ctP P a t ≤ (beL P a (l.take k)).1
    · rw [if_pos (Or.inr h1), if_pos (Or.inr h1)]
    · rw [if_neg (by omega), if_neg (by omega)]

set_option maxRecDepth 100000 in
set_option maxHeartbeats 8000000 in
theorem rbest_any (v vp : Value) (D P : List Int) (a : Nat) (hb : Bytes D) (ha : a < D.length) (hl : D.length ≤ 65536) (hPl : P.length = D.length + 1) (hP : ∀ x ∈ P, 0 ≤ x ∧ x ≤ 1000000000) (w : World) (h : Rd8 w v D) (hp : RdI w vp P) :
    Calls Try.prog 33 #[v, .int .i64 (a : Int), vp] w fun x w' => x = .returned (.tuple #[.int .i64 (beF D P a).1, tkv (beF D P a).2]) ∧ Ext w w' := by
  have hch := rchoices_good v D a hb ha hl
  obtain ⟨ad, cap, rfl, q1, q2, q3⟩ := Rd.shape h
  obtain ⟨pd, pc, rfl, p1, p2, -⟩ := Rd.shape hp
  obtain ⟨pb, po, hpb, hpb2, -⟩ := Rd.cells hp (by omega)
  subst hpb
  obtain ⟨m, hm⟩ : ∃ m, D.length = m := ⟨_, rfl⟩
  have hr : P.length = m + 1 := by omega
  rw [hm] at q1 hch ⊢
  rw [hr] at p1 ⊢
  have hR : Hid (Rd8 w (.slice ad m cap) D) := hidden (by rw [← hm]; exact h)
  replace hp : Hid (Rd w 1 (.slice (some ⟨pb, po, none⟩) (m + 1) pc) (m + 1) (P.map (Value.int .i64))) := hidden (by rw [← hr]; exact hp)
  have hNN : NN P := fun x hx => (hP x hx).1
  have hbe : Hid (beF D P a = bes P a (chF D a) (chF D a).length) := hidden (by
    unfold bes beF
    have := chA_pos D a (min 4096 a)
    unfold chF
    rw [if_neg (by omega), List.take_of_length_le (Nat.le_refl _)])
  have hmem := fun t (ht : t ∈ chF D a) => chc_ok hb ha (Nat.min_le_left 4096 a) (Nat.min_le_right 4096 a) (chA_mem D a _ t ht)
  have hbd := chA_bd D a (min 4096 a)
  have hbp := chA_pos D a (min 4096 a)
  change (chF D a).length ≤ 255 at hbd
  change 1 ≤ (chF D a).length at hbp
  obtain ⟨l, hll⟩ : ∃ l, chF D a = l := ⟨_, rfl⟩
  rw [hll] at hch hbe hmem hbd hbp
  obtain ⟨n, hn⟩ : ∃ n, l.length = n := ⟨_, rfl⟩
  rw [hn] at hbe hbd hbp
  have hl2 : m ≤ 65536 := by omega
  have ha2 : a < m := by omega
  replace hm := hidden hm
  replace hn := hidden hn
  replace hr := hidden hr
  replace hb := hidden hb
  replace hP := hidden hP
  replace hNN := hidden hNN
  replace hch := hidden hch
  replace hmem := hidden hmem
  have b0 := hidden (Blk.new w [.int .i64 0, .int .i64 0, .int .u8 0] 60)
  have hE0 := (Ext.refl w).alloc (.cells #[.int .i64 0, .int .i64 0, .int .u8 0] 60)
  have hR0 : Rd8 (w.alloc (.cells #[.int .i64 0, .int .i64 0, .int .u8 0] 60)) (.slice ad m cap) D := Rd.ext hR.out hE0
  clear h hll hPl ha hl
  have hps := fun (L Ds B : Int) W => rsize_any L Ds B W
  have hpr := fun (L Ds B : Int) W => rprice_any L Ds B W
  replace hps := hidden hps
  replace hpr := hidden hpr
  go_enter Try.func33, Try.ntmps33
  go_wp2_with fail
  refine (hch.out _ hR0).mono ?_
  rintro e1 w1 he1
  obtain ⟨vl, rfl, hO1, g1⟩ := he1
  obtain ⟨al, cl, rfl, e2, e3, e4⟩ := own_shape hO1
  obtain ⟨gl, rfl, e5, e6⟩ := e4 (by rw [hn.out]; omega)
  rw [World.size_alloc] at e5
  rw [hn.out] at hO1 e2 ⊢
  have hX1 := hE0.trans g1
  have b1 := (b0.out.ext g1).alloc (.cells #[.int .i64 0, .int .i64 0, .int .u8 0] 60)
  have t1 := Blk.new w1 [.int .i64 0, .int .i64 0, .int .u8 0] 60
  have hT1 : Rd w1 3 (.slice (some ⟨gl, 0, none⟩) n cl) n (l.flatMap tkc) := by have := OwnT.toks hO1; unfold Toks at this; rw [hn.out] at this; exact this
  have hT2 := Rd.alloc hT1 (.cells #[.int .i64 0, .int .i64 0, .int .u8 0] 60)
  have hX2 := hX1.alloc (.cells #[.int .i64 0, .int .i64 0, .int .u8 0] 60)
  have hs1 := hX1.size
  have hs1' := g1.size
  rw [World.size_alloc] at hs1'
  replace b1 := hidden b1
  replace t1 := hidden t1
  replace hT2 := hidden hT2
  replace hO1 := hidden hO1
  clear hT1 hR0 g1 e4
  go_wp2_with fail
  obtain ⟨W1, hW1⟩ : ∃ x, (w1.alloc (.cells #[.int .i64 0, .int .i64 0, .int .u8 0] 60)) = x := ⟨_, rfl⟩
  have hz1 : W1.heap.size = w1.heap.size + 1 := by rw [← hW1]; simp
  rw [hW1] at b1 t1 hT2 hX2 ⊢
  obtain ⟨pt, hpt⟩ : ∃ x, w1.heap.size = x := ⟨_, rfl⟩
  obtain ⟨s, hs⟩ : ∃ x, w.heap.size = x := ⟨_, rfl⟩
  rw [hpt] at t1 hs1 hs1' e6 hz1 ⊢
  rw [hs] at b1 e5 hs1 hs1' ⊢
  replace hs := hidden hs
  clear hW1 hpt hO1 hX1
  go_loopw [10, 12] (fun sv i wr => ∃ (k : Nat) (z : Int), i = .int .i64 (k : Int) ∧ k ≤ n ∧ sv = .int .i64 z ∧ Hid (z = (bes P a l k).1) ∧ Hid (Blk wr s 60 [.int .i64 0, .int .i64 0, .int .u8 0]) ∧ Hid (Blk wr pt 60 (tkc (bes P a l k).2)) ∧ Hid (Chg [pt] W1 wr)) (fun _ i _ => n - (intOf i).toNat)
  case atStart => exact ⟨0, 0, rfl, Nat.zero_le _, rfl, rfl, b1, t1, Chg.refl _ _⟩
  case round =>
    clear b1 t1
    obtain ⟨k, z, rfl, hk, rfl, hz, i0, i1, hC⟩ := hrel
    obtain ⟨W, hWW⟩ : ∃ Z, Z = wr := ⟨_, rfl⟩
    subst hWW
    have hTk : Rd W 3 (.slice (some ⟨gl, 0, none⟩) n cl) n (l.flatMap tkc) := Rd.chg hT2.out hC.out (fun x hx _ e => by simp at hx; simp [Value.ownBlock] at e; omega)
    by_cases hlt : k < n
    · obtain ⟨x, hx, hxm⟩ := at_lt l (k := k) (by rw [hn.out]; exact hlt)
      obtain ⟨c0, c1, c2⟩ := rd3_at tkc_len hTk k x hx _ _ _ rfl
      obtain ⟨L, Ds, B⟩ := x
      obtain ⟨k1, k2, k3, k4, k5, k6⟩ := hmem.out _ hxm
      have hpz := hps.out L Ds B
      have hpc := hpr.out L Ds B
      change ∀ W, Calls Try.prog _ #[.agg #[.int .i64 L, .int .i64 Ds, .int .u8 B]] W _ at hpz
      change ∀ W, Calls Try.prog _ #[.agg #[.int .i64 L, .int .i64 Ds, .int .u8 B]] W _ at hpc
      have hpd := prc_bd (L, Ds, B)
      have hst := bes_step hNN.out a hx
      unfold ctP at hst
      obtain ⟨zz, hzz⟩ : ∃ z, szT (L, Ds, B) = z := ⟨_, rfl⟩
      obtain ⟨c, hc⟩ : ∃ c, prc (L, Ds, B) = c := ⟨_, rfl⟩
      rw [hzz] at k3 k5 k6 hst
      rw [hc] at hpd hst
      rw [hm.out] at k3
      simp only [hzz] at hpz
      simp only [hc] at hpc
      obtain ⟨zn, rfl⟩ : ∃ n : Nat, zz = (n : Int) := ⟨zz.toNat, by omega⟩
      rw [Int.toNat_natCast] at hst
      have hRp : Rd W 1 (.slice (some ⟨pb, po, none⟩) (m + 1) pc) (m + 1) (P.map (Value.int .i64)) := Rd.chg (Rd.ext hp.out hX2) hC.out (fun x hx _ e => by simp at hx; simp [Value.ownBlock] at e; have := hs.out; omega)
      have hPi : a + zn < P.length := by rw [hr.out]; omega
      have cP := hRp.cells (by omega)
      obtain ⟨pb', po', e1, -, cP⟩ := cP
      simp only [Option.some.injEq, Addr.mk.injEq, and_true] at e1
      obtain ⟨rfl, rfl⟩ := e1
      have cP := cP (a + zn) (by simpa using hPi)
      rw [show (P.map (Value.int .i64)).getD (a + zn) undef = .int .i64 (P.getD (a + zn) 0) by simp [List.getD, hPi]] at cP
      have bP : 0 ≤ P.getD (a + zn) 0 ∧ P.getD (a + zn) 0 ≤ 1000000000 := by
        have e : P.getD (a + zn) 0 = P[a + zn] := by simp [List.getD, hPi]
        rw [e]; exact hP.out _ (List.getElem_mem hPi)
      obtain ⟨y, hy⟩ : ∃ y, P.getD (a + zn) 0 = y := ⟨_, rfl⟩
      rw [hy] at cP bP hst
      obtain ⟨⟨Lb, tL, tD, tB⟩, hN⟩ : ∃ N, bes P a l k = N := ⟨_, rfl⟩
      have hz' := hz.out
      have i1' := i1.out
      rw [hN] at i1' hz' hst
      simp only at hz'
      subst hz'
      rw [Nat.zero_add] at c0 c1 c2
      obtain ⟨S, hSd⟩ : ∃ S : World → Prop, S = fun W' => (((W'.cell? ⟨gl, k * 3, none⟩ = some (.int .i64 L) ∧ W'.cell? ⟨gl, k * 3 + 1, none⟩ = some (.int .i64 Ds)) ∧ W'.cell? ⟨gl, k * 3 + 2, none⟩ = some (.int .u8 B)) ∧ W'.cell? ⟨pb, po + (a + zn), none⟩ = some (.int .i64 y)) := ⟨_, rfl⟩
      have hSi : Hid (∀ W', Ext W W' → S W') := hidden (fun W' hX => by rw [hSd]; exact ⟨⟨⟨hX.cell c0, hX.cell c1⟩, hX.cell c2⟩, hX.cell cP⟩)
      have hSo : Hid (∀ W', S W' → (((W'.cell? ⟨gl, k * 3, none⟩ = some (.int .i64 L) ∧ W'.cell? ⟨gl, k * 3 + 1, none⟩ = some (.int .i64 Ds)) ∧ W'.cell? ⟨gl, k * 3 + 2, none⟩ = some (.int .u8 B)) ∧ W'.cell? ⟨pb, po + (a + zn), none⟩ = some (.int .i64 y))) := hidden (fun W' h => by rw [hSd] at h; exact h)
      have v1 : IntKind.i64.wrap ((a : Int) + (zn : Int)) = (a : Int) + (zn : Int) := IntWalk.i64_in _ (by omega)
      have v2 : IntKind.i64.wrap (c + y) = c + y := IntWalk.i64_in _ (by omega)
      have j1 : (0 : Int) ≤ (a : Int) + (zn : Int) := by omega
      have j2 : (a : Int) + (zn : Int) < (m : Int) + 1 := by omega
      have j3 : ((a : Int) + (zn : Int)).toNat = a + zn := by omega
      have hkI : (k : Int) < (n : Int) := by omega
      replace hst := hidden hst
      replace hpz := hidden hpz
      replace hpc := hidden hpc
      replace i1' := hidden i1'
      replace hTk := hidden hTk
      replace hx := hidden hx
      clear c0 c1 c2 cP hSd hPi hRp hy hzz hc k1 k2 k4 hN hxm
      have hpos : pt ≠ s := by omega
      have step : ∀ w4, Ext W w4 → Chg [pt] W1 w4 := fun w4 g => hC.out.trans (Chg.of_ext [] g) (by simp)
      replace step := hidden step
      by_cases hb1 : k = 0 ∨ c + y ≤ z
      · have hfin : Hid (bes P a l (k + 1) = (c + y, (L, Ds, B))) := hidden (by rw [hst.out, if_pos hb1])
        have hk0 : ((k : Int) == 0) = decide (k = 0) := by
          by_cases e : k = 0
          · subst e; simp
          · simp [e]
        by_cases hb2 : k = 0
        all_goals
          have hb3 : k ≠ 0 → c + y ≤ z := by omega
          have hkz : ((k : Int) == 0) = decide (k = 0) := hk0
          simp only [hb2, decide_true, decide_false] at hkz
          clear hb1 hk0
          (try have hb4 := hb3 hb2)
          clear hb3
          replace hb2 := hidden hb2
          go_wp2_with fail
          rename_i KK hKK
          refine wp_region_held_drew (S := S) (by kernel_rfl) (hSi.out W.drew (Ext.refl W).drew) (fun hS1 => ?_)
          refine takeH 0 (.slice (some ⟨gl, 0, none⟩) n cl) rfl rfl (by kernel_rfl) (by kernel_rfl) (by kernel_rfl) (fun _ _ _ h => h) (by rfl) (fun w' hw' => by go_simp) hS1 ?_
          simp only [List.setIfInBounds_toArray, List.set_cons_zero, List.set_cons_succ]
          refine takeH 1 (.int .i64 (k : Int)) rfl rfl (by kernel_rfl) (by kernel_rfl) (by kernel_rfl) (fun _ _ _ h => h) (by rfl) (fun w' hw' => by go_simp) hS1 ?_
          simp only [List.setIfInBounds_toArray, List.set_cons_zero, List.set_cons_succ]
          refine takeH 2 (.pointer (some ⟨gl, k * 3, none⟩)) rfl rfl (by kernel_rfl) (by kernel_rfl) (by kernel_rfl) (fun _ _ _ h => h) (by rfl) (fun w' hw' => by go_simp) hS1 ?_
          simp only [List.setIfInBounds_toArray, List.set_cons_zero, List.set_cons_succ]
          refine takeH 3 (.agg #[.int .i64 L, .int .i64 Ds, .int .u8 B]) rfl rfl (by kernel_rfl) (by kernel_rfl) (by kernel_rfl) (fun _ _ _ h => h) (by rfl) (fun w' hw' => by obtain ⟨⟨⟨y0, y1⟩, y2⟩, y5⟩ := hSo.out w' hw'; go_simp) hS1 ?_
          simp only [List.setIfInBounds_toArray, List.set_cons_zero, List.set_cons_succ]
          refine takeH 5 (.slice (some ⟨pb, po, none⟩) (m + 1) pc) rfl rfl (by kernel_rfl) (by kernel_rfl) (by kernel_rfl) (fun _ _ _ h => h) (by rfl) (fun w' hw' => by go_simp) hS1 ?_
          simp only [List.setIfInBounds_toArray, List.set_cons_zero, List.set_cons_succ]
          refine takeH 6 (.int .i64 (a : Int)) rfl rfl (by kernel_rfl) (by kernel_rfl) (by kernel_rfl) (fun _ _ _ h => h) (by rfl) (fun w' hw' => by go_simp) hS1 ?_
          simp only [List.setIfInBounds_toArray, List.set_cons_zero, List.set_cons_succ]
          refine takeH 7 (.slice (some ⟨gl, 0, none⟩) n cl) rfl rfl (by kernel_rfl) (by kernel_rfl) (by kernel_rfl) (fun _ _ _ h => h) (by rfl) (fun w' hw' => by go_simp) hS1 ?_
          simp only [List.setIfInBounds_toArray, List.set_cons_zero, List.set_cons_succ]
          refine takeH 8 (.int .i64 (k : Int)) rfl rfl (by kernel_rfl) (by kernel_rfl) (by kernel_rfl) (fun _ _ _ h => h) (by rfl) (fun w' hw' => by go_simp) hS1 ?_
          simp only [List.setIfInBounds_toArray, List.set_cons_zero, List.set_cons_succ]
          refine takeH 9 (.pointer (some ⟨gl, k * 3, none⟩)) rfl rfl (by kernel_rfl) (by kernel_rfl) (by kernel_rfl) (fun _ _ _ h => h) (by rfl) (fun w' hw' => by go_simp) hS1 ?_
          simp only [List.setIfInBounds_toArray, List.set_cons_zero, List.set_cons_succ]
          refine takeH 10 (.agg #[.int .i64 L, .int .i64 Ds, .int .u8 B]) rfl rfl (by kernel_rfl) (by kernel_rfl) (by kernel_rfl) (fun _ _ _ h => h) (by rfl) (fun w' hw' => by obtain ⟨⟨⟨y0, y1⟩, y2⟩, y5⟩ := hSo.out w' hw'; go_simp) hS1 ?_
          simp only [List.setIfInBounds_toArray, List.set_cons_zero, List.set_cons_succ]
          refine callH 4 39 #[.agg #[.int .i64 L, .int .i64 Ds, .int .u8 B]] rfl rfl (by kernel_rfl) (by rfl) (by go_simp) (hpc.out _) ?_
          rintro e w3 ⟨rfl, g3⟩
          refine ⟨_, rfl, hSi.out w3 ((Ext.refl W).drew.trans g3), ?_⟩
          simp only [List.setIfInBounds_toArray, List.set_cons_zero, List.set_cons_succ]
          refine callH 11 35 #[.agg #[.int .i64 L, .int .i64 Ds, .int .u8 B]] rfl rfl (by kernel_rfl) (by rfl) (by go_simp) (hpz.out _) ?_
          rintro e w4 ⟨rfl, g4⟩
          have gX : Ext W w4 := ((Ext.refl W).drew.trans g3).trans g4
          have hS4 := hSi.out w4 gX
          refine ⟨_, rfl, hS4, ?_⟩
          simp only [List.setIfInBounds_toArray, List.set_cons_zero, List.set_cons_succ]
          refine takeH 12 (.int .i64 ((a : Int) + (zn : Int))) rfl rfl (by kernel_rfl) (by kernel_rfl) (by kernel_rfl) (fun _ _ _ h => h) (by rfl) (fun w' hw' => by go_simp) hS4 ?_
          simp only [List.setIfInBounds_toArray, List.set_cons_zero, List.set_cons_succ]
          refine takeH 13 (.pointer (some ⟨pb, po + (a + zn), none⟩)) rfl rfl (by kernel_rfl) (by kernel_rfl) (by kernel_rfl) (fun _ _ _ h => h) (by rfl) (fun w' hw' => by go_simp) hS4 ?_
          simp only [List.setIfInBounds_toArray, List.set_cons_zero, List.set_cons_succ]
          refine takeH 14 (.int .i64 y) rfl rfl (by kernel_rfl) (by kernel_rfl) (by kernel_rfl) (fun _ _ _ h => h) (by rfl) (fun w' hw' => by obtain ⟨⟨⟨y0, y1⟩, y2⟩, y5⟩ := hSo.out w' hw'; go_simp) hS4 ?_
          simp only [List.setIfInBounds_toArray, List.set_cons_zero, List.set_cons_succ]
          refine takeH 15 (.int .i64 (c + y)) rfl rfl (by kernel_rfl) (by kernel_rfl) (by kernel_rfl) (fun _ _ _ h => h) (by rfl) (fun w' hw' => by go_simp) hS4 ?_
          simp only [List.setIfInBounds_toArray, List.set_cons_zero, List.set_cons_succ]
          refine takeH 16 (.int .i64 (c + y)) rfl rfl (by kernel_rfl) (by kernel_rfl) (by kernel_rfl) (fun _ _ _ h => h) (by rfl) (fun w' hw' => by go_simp) hS4 ?_
          simp only [List.setIfInBounds_toArray, List.set_cons_zero, List.set_cons_succ]
          refine wpAnyH_done (by kernel_rfl) ?_ _
          show KK _ _
          refine hKK _ _ ?_
          have q1 := i1'.out.ext gX
          have q0 := i0.out.ext gX
          have hC4 := step.out _ gX
          have u0 := q1.cell 0 _ rfl
          have u1 := q1.cell 1 _ rfl
          have u2 := q1.cell 2 _ rfl
          have f0 := q1.frozen 0
          have f1 := q1.frozen 1
          have f2 := q1.frozen 2
          simp only at u0 u1 u2
          have hS5 := hSo.out w4 hS4
          obtain ⟨⟨⟨y0, y1⟩, y2⟩, y5⟩ := hS5
          have n0 : 0 < n := by omega
          (try have hz0 : w4.cell? ⟨gl, 0, none⟩ = some (.int .i64 L) ∧ w4.cell? ⟨gl, 1, none⟩ = some (.int .i64 Ds) ∧ w4.cell? ⟨gl, 2, none⟩ = some (.int .u8 B) := (fun (e : k = 0) => by rw [e] at y0 y1 y2; exact ⟨y0, y1, y2⟩) hb2.out)
          replace q1 := hidden q1
          replace q0 := hidden q0
          replace hC4 := hidden hC4
          clear g3 g4 gX hS4 hS1 hpz hpc
          go_wp2_with fail
          go_region
          all_goals
            go_wp2_with fail
            go_round
            case rel => exact ⟨k + 1, c + y, by go_num, by omega, rfl, by show _ = _; rw [hfin.out], hidden (((q0.out.set_other (by omega) _).set_other (by omega) _).set_other (by omega) _).drew, hidden (by rw [hfin.out]; exact (((q1.out.set 0 _).set 1 _).set 2 _).drew), hidden (((hC4.out.setCell (p := ⟨pt, 0, none⟩) (Or.inl (by simp)) _).setCell (p := ⟨pt, 1, none⟩) (Or.inl (by simp)) _).setCell (p := ⟨pt, 2, none⟩) (Or.inl (by simp)) _).drew⟩
            case measure => simp [intOf]; omega
      · have hfin : Hid (bes P a l (k + 1) = (z, (tL, tD, tB))) := hidden (by rw [hst.out, if_neg hb1])
        have hb2 : ((k : Int) == 0) = false := by simp; omega
        have hb3 : ¬ c + y ≤ z := by omega
        clear hb1
        go_wp2_with fail
        rename_i KK hKK
        refine wp_region_held_drew (S := S) (by kernel_rfl) (hSi.out W.drew (Ext.refl W).drew) (fun hS1 => ?_)
        refine takeH 0 (.slice (some ⟨gl, 0, none⟩) n cl) rfl rfl (by kernel_rfl) (by kernel_rfl) (by kernel_rfl) (fun _ _ _ h => h) (by rfl) (fun w' hw' => by go_simp) hS1 ?_
        simp only [List.setIfInBounds_toArray, List.set_cons_zero, List.set_cons_succ]
        refine takeH 1 (.int .i64 (k : Int)) rfl rfl (by kernel_rfl) (by kernel_rfl) (by kernel_rfl) (fun _ _ _ h => h) (by rfl) (fun w' hw' => by go_simp) hS1 ?_
        simp only [List.setIfInBounds_toArray, List.set_cons_zero, List.set_cons_succ]
        refine takeH 2 (.pointer (some ⟨gl, k * 3, none⟩)) rfl rfl (by kernel_rfl) (by kernel_rfl) (by kernel_rfl) (fun _ _ _ h => h) (by rfl) (fun w' hw' => by go_simp) hS1 ?_
        simp only [List.setIfInBounds_toArray, List.set_cons_zero, List.set_cons_succ]
        refine takeH 3 (.agg #[.int .i64 L, .int .i64 Ds, .int .u8 B]) rfl rfl (by kernel_rfl) (by kernel_rfl) (by kernel_rfl) (fun _ _ _ h => h) (by rfl) (fun w' hw' => by obtain ⟨⟨⟨y0, y1⟩, y2⟩, y5⟩ := hSo.out w' hw'; go_simp) hS1 ?_
        simp only [List.setIfInBounds_toArray, List.set_cons_zero, List.set_cons_succ]
        refine takeH 5 (.slice (some ⟨pb, po, none⟩) (m + 1) pc) rfl rfl (by kernel_rfl) (by kernel_rfl) (by kernel_rfl) (fun _ _ _ h => h) (by rfl) (fun w' hw' => by go_simp) hS1 ?_
        simp only [List.setIfInBounds_toArray, List.set_cons_zero, List.set_cons_succ]
        refine takeH 6 (.int .i64 (a : Int)) rfl rfl (by kernel_rfl) (by kernel_rfl) (by kernel_rfl) (fun _ _ _ h => h) (by rfl) (fun w' hw' => by go_simp) hS1 ?_
        simp only [List.setIfInBounds_toArray, List.set_cons_zero, List.set_cons_succ]
        refine takeH 7 (.slice (some ⟨gl, 0, none⟩) n cl) rfl rfl (by kernel_rfl) (by kernel_rfl) (by kernel_rfl) (fun _ _ _ h => h) (by rfl) (fun w' hw' => by go_simp) hS1 ?_
        simp only [List.setIfInBounds_toArray, List.set_cons_zero, List.set_cons_succ]
        refine takeH 8 (.int .i64 (k : Int)) rfl rfl (by kernel_rfl) (by kernel_rfl) (by kernel_rfl) (fun _ _ _ h => h) (by rfl) (fun w' hw' => by go_simp) hS1 ?_
        simp only [List.setIfInBounds_toArray, List.set_cons_zero, List.set_cons_succ]
        refine takeH 9 (.pointer (some ⟨gl, k * 3, none⟩)) rfl rfl (by kernel_rfl) (by kernel_rfl) (by kernel_rfl) (fun _ _ _ h => h) (by rfl) (fun w' hw' => by go_simp) hS1 ?_
        simp only [List.setIfInBounds_toArray, List.set_cons_zero, List.set_cons_succ]
        refine takeH 10 (.agg #[.int .i64 L, .int .i64 Ds, .int .u8 B]) rfl rfl (by kernel_rfl) (by kernel_rfl) (by kernel_rfl) (fun _ _ _ h => h) (by rfl) (fun w' hw' => by obtain ⟨⟨⟨y0, y1⟩, y2⟩, y5⟩ := hSo.out w' hw'; go_simp) hS1 ?_
        simp only [List.setIfInBounds_toArray, List.set_cons_zero, List.set_cons_succ]
        refine callH 4 39 #[.agg #[.int .i64 L, .int .i64 Ds, .int .u8 B]] rfl rfl (by kernel_rfl) (by rfl) (by go_simp) (hpc.out _) ?_
        rintro e w3 ⟨rfl, g3⟩
        refine ⟨_, rfl, hSi.out w3 ((Ext.refl W).drew.trans g3), ?_⟩
        simp only [List.setIfInBounds_toArray, List.set_cons_zero, List.set_cons_succ]
        refine callH 11 35 #[.agg #[.int .i64 L, .int .i64 Ds, .int .u8 B]] rfl rfl (by kernel_rfl) (by rfl) (by go_simp) (hpz.out _) ?_
        rintro e w4 ⟨rfl, g4⟩
        have gX : Ext W w4 := ((Ext.refl W).drew.trans g3).trans g4
        have hS4 := hSi.out w4 gX
        refine ⟨_, rfl, hS4, ?_⟩
        simp only [List.setIfInBounds_toArray, List.set_cons_zero, List.set_cons_succ]
        refine takeH 12 (.int .i64 ((a : Int) + (zn : Int))) rfl rfl (by kernel_rfl) (by kernel_rfl) (by kernel_rfl) (fun _ _ _ h => h) (by rfl) (fun w' hw' => by go_simp) hS4 ?_
        simp only [List.setIfInBounds_toArray, List.set_cons_zero, List.set_cons_succ]
        refine takeH 13 (.pointer (some ⟨pb, po + (a + zn), none⟩)) rfl rfl (by kernel_rfl) (by kernel_rfl) (by kernel_rfl) (fun _ _ _ h => h) (by rfl) (fun w' hw' => by go_simp) hS4 ?_
        simp only [List.setIfInBounds_toArray, List.set_cons_zero, List.set_cons_succ]
        refine takeH 14 (.int .i64 y) rfl rfl (by kernel_rfl) (by kernel_rfl) (by kernel_rfl) (fun _ _ _ h => h) (by rfl) (fun w' hw' => by obtain ⟨⟨⟨y0, y1⟩, y2⟩, y5⟩ := hSo.out w' hw'; go_simp) hS4 ?_
        simp only [List.setIfInBounds_toArray, List.set_cons_zero, List.set_cons_succ]
        refine takeH 15 (.int .i64 (c + y)) rfl rfl (by kernel_rfl) (by kernel_rfl) (by kernel_rfl) (fun _ _ _ h => h) (by rfl) (fun w' hw' => by go_simp) hS4 ?_
        simp only [List.setIfInBounds_toArray, List.set_cons_zero, List.set_cons_succ]
        refine takeH 16 (.int .i64 (c + y)) rfl rfl (by kernel_rfl) (by kernel_rfl) (by kernel_rfl) (fun _ _ _ h => h) (by rfl) (fun w' hw' => by go_simp) hS4 ?_
        simp only [List.setIfInBounds_toArray, List.set_cons_zero, List.set_cons_succ]
        refine wpAnyH_done (by kernel_rfl) ?_ _
        show KK _ _
        refine hKK _ _ ?_
        have q1 := i1'.out.ext gX
        have q0 := i0.out.ext gX
        have hC4 := step.out _ gX
        replace q1 := hidden q1
        replace q0 := hidden q0
        replace hC4 := hidden hC4
        clear g3 g4 gX hS4 hS1 hpz hpc
        go_wp2_with fail
        go_round
        case rel => exact ⟨k + 1, z, by go_num, by omega, rfl, by show _ = _; rw [hfin.out], q0, hidden (by rw [hfin.out]; exact q1.out), hC4⟩
        case measure => simp [intOf]; omega
    · have hkn : k = n := by omega
      rw [hkn, ← hbe.out] at i1 hz
      obtain ⟨⟨Lb, tL, tD, tB⟩, hN⟩ : ∃ N, beF D P a = N := ⟨_, rfl⟩
      rw [hN] at i1 hz
      have hz' := hz.out
      simp only at hz'
      subst hz'
      have u0 := i1.out.cell 0 _ rfl
      have u1 := i1.out.cell 1 _ rfl
      have u2 := i1.out.cell 2 _ rfl
      have f0 := i0.out.frozen 0
      have f1 := i0.out.frozen 1
      have f2 := i0.out.frozen 2
      have z0 := i0.out.cell 0 _ rfl
      have z1 := i0.out.cell 1 _ rfl
      have z2 := i0.out.cell 2 _ rfl
      simp only at u0 u1 u2
      replace hN := hidden hN
      replace hkn := hidden hkn
      have hXf : Ext w W := (Chg.trans (Chg.of_ext [] hX2) hC.out (fun x hx => Or.inr (by simp at hx; have := hs.out; omega))).ext
      replace hXf := hidden hXf
      go_wp2_with fail
      go_region
      all_goals
        go_wp2_with fail
        have Z3 := (((i0.out.set 0 (.int .i64 tL)).set 1 (.int .i64 tD)).set 2 (.int .u8 tB)).drew
        have p0 := Z3.cell 0 _ rfl
        have p1 := Z3.cell 1 _ rfl
        have p2 := Z3.cell 2 _ rfl
        refine bodyPost_ret (v := .tuple #[.int .i64 z, .agg #[.int .i64 tL, .int .i64 tD, .int .u8 tB]]) (by simp [results, Try.results33, go_sem, p0, p1, p2]) rfl ⟨by rw [hN.out]; rfl, (hXf.out.set3 s (by have := hs.out; omega) _ _ _).drew⟩
end Go.Proofs.Ytjfdmhdmadnkoaa
