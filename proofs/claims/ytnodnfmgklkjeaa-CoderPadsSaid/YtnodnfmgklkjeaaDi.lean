/- The law CoderPads: the walk. -/
import Derived.Test.YtnodnfmgklkjeaaDh
import Derived.Test.YtnodnfmgklkjeaaDd
import Derived.Deep.AppendLies
import Derived.Outline
namespace Go.Proofs.Ytnodnfmgklkjeaa
open Go.RowKit
set_option linter.unusedVariables false
attribute [local go_sem ↓] Go.wp_at_zero Go.wp_at_succ

theorem prb_p (p : Int) : prb (pOf (false, p)) = true := by unfold prb pOf; simp; omega
theorem DInv.chk {m : Nat} {s : St} (h : DInv m s) (hm : m ≤ 1000) : Ytnodnfmgklkjeaa.chk s.1 s.2.2.length = 0 := by
  unfold Ytnodnfmgklkjeaa.chk
  have := h.len
  rw [if_neg (by have h := h.w0; omega), if_neg (by omega)]
structure PadStep (b b2 ps : List Int) (k : Nat) (p wd cd bt wdn cdn : Int) (r t rn tn : List Int) : Prop where
  ok1 : decF wd cd r (pOf (false, p)) = (0, bt, wdn, cdn, rn)
  ok2 : decF wd cd t (pOf (false, p)) = (0, bt, wdn, cdn, tn)
  bit : bt = 0 ∨ bt = 1
  n1 : dRun (opF b) (ps.take (k + 1)) = (wdn, cdn, rn)
  n2 : dRun (opF b2) (ps.take (k + 1)) = (wdn, cdn, tn)
  bits : bitsOf (opF b) (ps.take (k + 1)) = bitsOf (opF b) (ps.take k) ++ [(decide (bt = 1), p)]
  w1 : wd ≤ 4294967295
  c0 : 0 ≤ cd
  c1 : cd ≤ 4294967295
  by1 : Bytes r
  by2 : Bytes t
  chk1 : chk wd r.length = 0
  chk2 : chk wd t.length = 0
theorem pad_step (b ps : List Int) (z : Nat) (hb : Bytes b) (hl : b.length ≤ 100) (hz : z ≤ 20) (k : Nat) (hk : k < ps.length) (wd cd : Int) (r t : List Int)
    (h1 : dRun (opF b) (ps.take k) = (wd, cd, r)) (h2 : dRun (opF (b ++ List.replicate z 0)) (ps.take k) = (wd, cd, t)) :
    ∃ bt wdn cdn rn tn, PadStep b (b ++ List.replicate z 0) ps k (ps.getD k 0) wd cd bt wdn cdn r t rn tn := by
  obtain ⟨p, hp⟩ : ∃ p, ps.getD k 0 = p := ⟨_, rfl⟩
  have ht : ps.take (k + 1) = ps.take k ++ [p] := by
    rw [List.take_succ_eq_append_getElem hk, ← hp]
    simp [List.getD, hk]
  have hb2 : Bytes (b ++ List.replicate z 0) := by
    intro x hx
    rcases List.mem_append.1 hx with h | h
    · exact hb x h
    · rw [List.eq_of_mem_replicate h]; decide
  have i1 := dRun_inv (opF_inv b 1000 hb (by omega)) (ps.take k)
  have i2 := dRun_inv (opF_inv (b ++ List.replicate z 0) 1000 hb2 (by simp; omega)) (ps.take k)
  have hs := dRun_sim (opF_sim (EqZ.zeros b z)) (ps.take k)
  rw [h1] at i1
  rw [h2] at i2
  rw [h1, h2] at hs
  have hn := hs.dec p
  have hbt := hs.bit p
  have e1 := i1.dec (by omega) p
  have e2 := i2.dec (by omega) p
  rw [← hbt] at e2
  obtain ⟨⟨wdn, cdn, rn⟩, hn1⟩ : ∃ s, decS (wd, cd, r) p = s := ⟨_, rfl⟩
  obtain ⟨⟨wdm, cdm, tn⟩, hn2⟩ : ∃ s, decS (wd, cd, t) p = s := ⟨_, rfl⟩
  rw [hn1, hn2] at hn
  obtain ⟨q1, q2, -⟩ := hn
  simp only at q1 q2
  subst q1
  subst q2
  rw [hn1] at e1
  rw [hn2] at e2
  rw [hp]
  exact ⟨bitS (wd, cd, r) p, wdn, cdn, rn, tn, e1, e2, bitS_01 _ _, by rw [ht, dRun_snoc, h1, hn1], by rw [ht, dRun_snoc, h2, hn2], by rw [ht, bitsOf_snoc, h1], i1.w1, i1.c0, i1.c1, i1.bytes, i2.bytes, i1.chk (by omega), i2.chk (by omega)⟩
/-- Bytes do not lie in a block that holds none. -/
theorem Rd8.off_any {w : World} {v : Value} {l : List Int} {q : Nat} {t : TypeId} {cs : List Value} (h : Rd8 w v l) (hB : Blk w q t cs) (hn : ∀ u ∈ cs, ∀ n, u ≠ .int .u8 n) : 0 < l.length → v.ownBlock ≠ some q := by
  intro hl hv
  obtain ⟨_, a', cap', rfl, _, _, _, h6⟩ := h
  obtain ⟨b', off', rfl, -, hc⟩ := h6 hl
  simp [Value.ownBlock] at hv
  subst hv
  have h1 := hc 0 (by rw [bs_len]; exact hl)
  rw [bs_get l 0 hl, Nat.add_zero] at h1
  unfold Blk at hB
  simp only [World.cell?, hB] at h1
  have h2 : cs[off']? = some (.int .u8 (l.getD 0 0)) := by simpa using h1
  exact hn _ (List.mem_of_getElem? h2) _ rfl
/-- A row's block is none that is known whole and of another type. -/
theorem own_ne_blk {w : World} {B : Nat} {e t : TypeId} {sz n q : Nat} {v : Value} {xs cs : List Value} (h : w.ownsRow B e sz v n xs) (hB : Blk w q t cs) (hne : t ≠ e) : v.ownBlock ≠ some q := by
  intro hv
  rcases h.2 with ⟨rfl, _⟩ | ⟨g, cap, cur, rfl, _, hg, _⟩
  · simp [Value.ownBlock] at hv
  · simp [Value.ownBlock] at hv
    subst hv
    unfold Blk at hB
    rw [hB] at hg
    simp at hg
    exact hne hg.2
def u16s (l : List Int) : List Value := l.map (Value.int .u16)

set_option maxHeartbeats 4000000 in
theorem CoderPads_law (v : Value) (b : List Int) (vp : Value) (ps : List Int) (zz : Int) (hb : Bytes b) (hps : ∀ p ∈ ps, 0 ≤ p ∧ p ≤ 65535) (hz0 : 0 ≤ zz) (hz1 : zz ≤ 255) (w : World) (h : Rd8 w v b) (hp : Rd w 1 vp ps.length (u16s ps)) :
    Calls Try.prog 8 #[v, vp, .int .u8 zz] w fun x w' => x = .returned (.bool true) ∧ Ext w w' := by
  obtain ⟨a, cap, rfl, h1, h2, h3⟩ := Rd.shape h
  obtain ⟨ap, capp, rfl, p1, p2, p3⟩ := Rd.shape hp
  by_cases hlen : b.length ≤ 100 ∧ ps.length ≤ 300
  · obtain ⟨hl1, hl2⟩ := hlen
    have hlt1 : ¬ (100 : Int) < (b.length : Int) := by omega
    have hlt2 : ¬ (300 : Int) < (ps.length : Int) := by omega
    obtain ⟨z, hz⟩ : ∃ z : Nat, zz % 20 = (z : Int) := ⟨(zz % 20).toNat, by omega⟩
    have hz20 : z ≤ 20 := by omega
    obtain ⟨i0, hi, hz0', hz1', hz2'⟩ := info_parts u8info
    obtain ⟨j0, ji, jz0, jz1, jz2⟩ := info_parts stinfo
    have hz := hidden hz
    go_enter Try.func8, Try.ntmps8
    go_wp2_with fail
    refine (Open_any _ b hb (by omega) _ h).mono ?_
    rintro e w1 ⟨a1, k1, rfl, hR1, g1⟩
    obtain ⟨⟨wd0, cd0, r0⟩, hs0⟩ : ∃ s, opF b = s := ⟨_, rfl⟩
    rw [hs0] at hR1 ⊢
    simp only at hR1 ⊢
    have hr := Rd.alloc (Rd.ext h g1) (.cells #[] 5)
    have hs0 := hidden hs0
    go_wp2_with (at_builtin; first | (refine wpList_append_rd (by rfl) (.tmp 29) (.tmp 30) 23 (by rfl) w1.heap.size 5 i0 (.int .u8 0) 1 1 Try.underlying23 hi hz0' hz1' hz2' rfl (by decide) _ 0 [] (by rfl) (own_zero w1 _ 1) a b.length cap (bs b) (by rfl) hr (bs_one b) (by unfold maxLen; omega) (by omega) (by simp) ?_; intro v2 w2 hown hgrow hat; rw [Nat.zero_add, List.nil_append] at hown; have E2 : Ext w1 w2 := (((Chg.refl [] w1).alloc (.cells #[] 5)).grown hgrow (fun k hk => by simp [Value.ownBlock] at hk; subst hk; exact Or.inr (Nat.le_refl _))).ext; have hsz2 := E2.size; clear hgrow hat hr; have hown := hidden hown) | (refine wpList_append_zeros w2 (by rfl) (.tmp 31) (.tmp 34) 23 3 (by rfl) w1.heap.size 5 i0 (.int .u8 0) 1 Try.underlying23 Try.underlying3 hi hz0' hz1' hz2' rfl rfl v2 b.length (bs b) (by rfl) hown.out z (by first | rfl | (rw [← hz.out]; rfl)) (by omega) (by omega) (by unfold maxLen; omega) (by omega) hsz2 ?_; intro v3 w3 hown3 hgrow3 hat3))
    have E3 : Ext w1 w3 := by
      have c1 := (Chg.of_ext [] E2).grown hgrow3 (fun k hk => Or.inr (own_lt hown.out hk).1)
      exact c1.ext
    rw [show bs b ++ List.replicate z (Value.int .u8 0) = bs (b ++ List.replicate z 0) by simp [bs]] at hown3
    have hR3 : Rd8 w3 v3 (b ++ List.replicate z 0) := by
      have := Rd.of_own hown3
      unfold Rd8
      rw [List.length_append, List.length_replicate]
      exact this
    clear hown hown3 hgrow3 hat3 E2 hsz2
    obtain ⟨b2, hb2⟩ : ∃ l, b ++ List.replicate z 0 = l := ⟨_, rfl⟩
    have hbb2 : Bytes b2 := by
      rw [← hb2]
      intro x hx
      rcases List.mem_append.1 hx with h | h
      · exact hb x h
      · rw [List.eq_of_mem_replicate h]; decide
    have hlb2 : b2.length ≤ 200 := by rw [← hb2]; simp; omega
    rw [hb2] at hR3
    have hb2 := hidden hb2
    obtain ⟨a3, k3, rfl, -⟩ := Rd.shape hR3
    go_wp2_with fail
    refine (Open_any _ b2 hbb2 (by omega) _ hR3).mono ?_
    have hsim := opF_sim (EqZ.zeros b z)
    rw [hs0.out, hb2.out] at hsim
    obtain ⟨⟨wd1, cd1, r1⟩, hs1⟩ : ∃ s, opF b2 = s := ⟨_, rfl⟩
    rw [hs1] at hsim ⊢
    obtain ⟨q1, q2, -⟩ := hsim
    simp only at q1 q2
    subst q1
    subst q2
    rintro e w4 ⟨a4, k4, rfl, hR4, g4⟩
    simp only at hR4 ⊢
    have hs1 := hidden hs1
    have E4 : Ext w w4 := (g1.trans E3).trans g4
    have hR0 := Rd.ext hR1 (E3.trans g4)
    have C7 := (Blk.new w4 [.int .u32 wd0, .int .u32 cd0, .slice a1 r0.length k1] 44).alloc (.cells #[.int .u32 wd0, .int .u32 cd0, .slice a4 r1.length k4] 44)
    have C8 := Blk.new (w4.alloc (.cells #[.int .u32 wd0, .int .u32 cd0, .slice a1 r0.length k1] 44)) [.int .u32 wd0, .int .u32 cd0, .slice a4 r1.length k4] 44
    rw [World.size_alloc] at C8
    have hR7 := Rd.alloc (Rd.alloc hR0 (.cells #[.int .u32 wd0, .int .u32 cd0, .slice a1 r0.length k1] 44)) (.cells #[.int .u32 wd0, .int .u32 cd0, .slice a4 r1.length k4] 44)
    have hR8 := Rd.alloc (Rd.alloc hR4 (.cells #[.int .u32 wd0, .int .u32 cd0, .slice a1 r0.length k1] 44)) (.cells #[.int .u32 wd0, .int .u32 cd0, .slice a4 r1.length k4] 44)
    have E5 := (E4.alloc (.cells #[.int .u32 wd0, .int .u32 cd0, .slice a1 r0.length k1] 44)).alloc (.cells #[.int .u32 wd0, .int .u32 cd0, .slice a4 r1.length k4] 44)
    have hq7 := E4.size
    obtain ⟨q7, hq⟩ : ∃ q, w4.heap.size = q := ⟨_, rfl⟩
    rw [hq] at C7 C8 hq7
    go_wp2_with fail
    go_loopw [9, 10] (fun v9 i wr => ∃ (k : Nat) (wd cd : Int) (r t : List Int) (a7 : Option Addr) (k7 : Nat) (a8 : Option Addr) (k8 : Nat) (a9 : Option Addr) (k9 : Nat), k ≤ ps.length ∧ v9 = .slice a9 k k9 ∧ i = .int .i64 k ∧ dRun (opF b) (ps.take k) = (wd, cd, r) ∧ dRun (opF b2) (ps.take k) = (wd, cd, t) ∧
      Blk wr q7 44 [.int .u32 wd, .int .u32 cd, .slice a7 r.length k7] ∧ Blk wr (q7 + 1) 44 [.int .u32 wd, .int .u32 cd, .slice a8 t.length k8] ∧ Rd8 wr (.slice a7 r.length k7) r ∧ Rd8 wr (.slice a8 t.length k8) t ∧
      wr.ownsRow w.heap.size 60 2 (.slice a9 k k9) k (sts (bitsOf (opF b) (ps.take k))) ∧ (∀ g, (Value.slice a9 k k9).ownBlock = some g → (0 < r.length → (Value.slice a7 r.length k7).ownBlock ≠ some g) ∧ (0 < t.length → (Value.slice a8 t.length k8).ownBlock ≠ some g)) ∧ Ext w wr) (fun _ i _ => (ps.length - intOf i).toNat)
    case atStart => exact ⟨0, wd0, cd0, r0, r1, a1, k1, a4, k4, none, 0, by omega, rfl, rfl, hs0.out, hs1.out, C7, C8, hR7, hR8, World.ownsRow_nil _ _ _ _, (fun g hg => by simp [Value.ownBlock] at hg), E5⟩
    case round =>
      clear C7 C8 hR7 hR8 E5 hR0 hR1 hR3 hR4 g1 g4 E3 E4 hq
      obtain ⟨k, wd, cd, r, t, a7, k7, a8, k8, a9, k9, hk, rfl, rfl, hst1, hst2, hB7, hB8, hR7, hR8, hO, hsep, hE⟩ := hrel
      have hst1 := hidden hst1
      have hst2 := hidden hst2
      have hO := hidden hO
      have hsep := hidden hsep
      by_cases hlt : k < ps.length
      · have hlt' : (k : Int) < (ps.length : Int) := by omega
        obtain ⟨bt, wdn, cdn, rn, tn, hS⟩ := pad_step b ps z hb hl1 hz20 k hlt wd cd r t hst1.out (by rw [hb2.out]; exact hst2.out)
        rw [hb2.out] at hS
        obtain ⟨ok7, ok8, hbit, hn1, hn2, hbits, w1, c0, c1, by7, by8, chk7, chk8⟩ := hS
        have ok7 := hidden ok7
        have ok8 := hidden ok8
        have hn1 := hidden hn1
        have hn2 := hidden hn2
        have hbits := hidden hbits
        obtain ⟨pb, po, rfl, -, hcp⟩ := Rd.cells hp (by omega)
        have x1 := hcp k (by simp [u16s]; omega)
        have hpu : 0 ≤ ps.getD k 0 ∧ ps.getD k 0 ≤ 65535 := by
          simp only [List.getD, hlt, List.getElem?_eq_getElem, Option.getD_some]
          exact hps _ (List.getElem_mem hlt)
        rw [show (u16s ps).getD k undef = .int .u16 (ps.getD k 0) by simp [u16s, List.getD, hlt]] at x1
        obtain ⟨p, hp'⟩ : ∃ p, ps.getD k 0 = p := ⟨_, rfl⟩
        rw [hp'] at x1 hpu hbits ok7 ok8
        obtain ⟨u0, u1⟩ := hpu
        clear hp'
        have y1 := hE.cell x1
        clear hcp
        have S0 := Blk.new wr [.bool false, .int .u16 p] 60
        have B7 := hB7.alloc (.cells #[.bool false, .int .u16 p] 60)
        have B8 := hB8.alloc (.cells #[.bool false, .int .u16 p] 60)
        have Rc7 := Rd.alloc hR7 (.cells #[.bool false, .int .u16 p] 60)
        have Rc8 := Rd.alloc hR8 (.cells #[.bool false, .int .u16 p] 60)
        have EW := (Ext.refl wr).alloc (.cells #[.bool false, .int .u16 p] 60)
        obtain ⟨qs, hqs⟩ : ∃ q, wr.heap.size = q := ⟨_, rfl⟩
        rw [hqs] at S0
        have hq7lt := hB7.lt
        have hq8lt := hB8.lt
        have hEsz := hE.size
        rw [hqs] at hq7lt hq8lt hEsz
        go_wp2_with fail
        obtain ⟨W, hW⟩ : ∃ W, wr.alloc (.cells #[.bool false, .int .u16 p] 60) = W := ⟨_, rfl⟩
        rw [hW] at S0 B7 B8 Rc7 Rc8 EW
        rw [hW]
        clear hW
        have s0 := S0.cell 0 _ rfl
        have s1 := S0.cell 1 _ rfl
        have c70 := B7.cell 0 _ rfl
        have c71 := B7.cell 1 _ rfl
        have c72 := B7.cell 2 _ rfl
        have n0 := World.new_ne W _ s0
        have n1 := World.new_ne W _ s1
        have n2 := World.new_ne W _ c70
        have n3 := World.new_ne W _ c71
        have n4 := World.new_ne W _ c72
        go_upto_region 9 with fail
        go_cut [12, 13, 14] (fun sx sn se wx => ∃ q a2 k2, sx = .int .i64 bt ∧ sn = .pointer (some ⟨q, 0, none⟩) ∧ se = .int .i64 0 ∧ W.heap.size ≤ q ∧ Blk wx q 44 [.int .u32 wdn, .int .u32 cdn, .slice a2 rn.length k2] ∧ Rd8 wx (.slice a2 rn.length k2) rn ∧ (∀ y, y < W.heap.size → (Value.slice a2 rn.length k2).ownBlock ≠ some y) ∧ Ext W wx)
        case first =>
          go_region_held3 (fun w' => w'.cell? ⟨qs, 0, none⟩ = some (.bool false) ∧ w'.cell? ⟨qs, 1, none⟩ = some (.int .u16 p) ∧ w'.cell? ⟨q7, 0, none⟩ = some (.int .u32 wd) ∧ w'.cell? ⟨q7, 1, none⟩ = some (.int .u32 cd) ∧ w'.cell? ⟨q7, 2, none⟩ = some (.slice a7 r.length k7)) (go_keep)
            (first | (go_at_call 30; refine (p_any (false, p) u0 u1 _).mono ?_; rintro e w5 ⟨rfl, g5⟩; (first | (have kq := newb (wr := W) (t := 44) (cs := [.int .u32 0, .int .u32 0, .slice none 0 0]) (by first | exact gX.size | exact Nat.le_refl _) g5; have kb := kq.2; have kb0 := kb.cell 0 _ rfl; have kb1 := kb.cell 1 _ rfl; have kb2 := kb.cell 2 _ rfl; have kf0 := kb.frozen 0; have kf1 := kb.frozen 1; have kf2 := kb.frozen 2) | (have kq := newb_drew (wr := W) (t := 44) (cs := [.int .u32 0, .int .u32 0, .slice none 0 0]) (by first | exact gX.size | exact Nat.le_refl _) g5; have kb := kq.2; have kb0 := kb.cell 0 _ rfl; have kb1 := kb.cell 1 _ rfl; have kb2 := kb.cell 2 _ rfl; have kf0 := kb.frozen 0; have kf1 := kb.frozen 1; have kf2 := kb.frozen 2) | (have kb := kb.ext g5; have kb0 := kb.cell 0 _ rfl; have kb1 := kb.cell 1 _ rfl; have kb2 := kb.cell 2 _ rfl; have kf0 := kb.frozen 0; have kf1 := kb.frozen 1; have kf2 := kb.frozen 2) | skip); have gX : Ext W w5 := (by first | exact Ext.trans gX g5 | exact (Ext.trans gX g5.past) | exact g5.past_drew | exact g5.past_drew.past | exact g5); have j0 : w5.cell? ⟨qs, 0, none⟩ = some (.bool false) := gX.cell s0; have j1 : w5.cell? ⟨qs, 1, none⟩ = some (.int .u16 p) := gX.cell s1; have j2 : w5.cell? ⟨q7, 0, none⟩ = some (.int .u32 wd) := gX.cell c70; have j3 : w5.cell? ⟨q7, 1, none⟩ = some (.int .u32 cd) := gX.cell c71; have j4 : w5.cell? ⟨q7, 2, none⟩ = some (.slice a7 r.length k7) := gX.cell c72; have m0 := World.new_ne w5 _ j0; have m1 := World.new_ne w5 _ j1; have m2 := World.new_ne w5 _ j2; have m3 := World.new_ne w5 _ j3; have m4 := World.new_ne w5 _ j4) | (go_at_call 22; refine (decode_fresh wd cd (pOf (false, p)) _ r _ (by first | exact Rd.ext Rc7 gX | exact Rd.alloc (Rd.ext Rc7 gX) _ | exact Rd.drew Rc7 | exact Rd.drew (Rd.alloc Rc7 _) | exact Rc7) chk7 (prb_p p) by7 c0 c1 w1).mono ?_; rw [ok7.out]; rintro e w5 ⟨a5, k5, rfl, hR5, hF5, g5⟩; have hF6 : ∀ y, y < W.heap.size → (Value.slice a5 rn.length k5).ownBlock ≠ some y := fun y hy => hF5 y (by have hq := gX.size; try simp; omega); (first | (have kq := newb (wr := W) (t := 44) (cs := [.int .u32 0, .int .u32 0, .slice none 0 0]) (by first | exact gX.size | exact Nat.le_refl _) g5; have kb := kq.2; have kb0 := kb.cell 0 _ rfl; have kb1 := kb.cell 1 _ rfl; have kb2 := kb.cell 2 _ rfl; have kf0 := kb.frozen 0; have kf1 := kb.frozen 1; have kf2 := kb.frozen 2) | (have kq := newb_drew (wr := W) (t := 44) (cs := [.int .u32 0, .int .u32 0, .slice none 0 0]) (by first | exact gX.size | exact Nat.le_refl _) g5; have kb := kq.2; have kb0 := kb.cell 0 _ rfl; have kb1 := kb.cell 1 _ rfl; have kb2 := kb.cell 2 _ rfl; have kf0 := kb.frozen 0; have kf1 := kb.frozen 1; have kf2 := kb.frozen 2) | (have kb := kb.ext g5; have kb0 := kb.cell 0 _ rfl; have kb1 := kb.cell 1 _ rfl; have kb2 := kb.cell 2 _ rfl; have kf0 := kb.frozen 0; have kf1 := kb.frozen 1; have kf2 := kb.frozen 2) | skip); have gX : Ext W w5 := (by first | exact Ext.trans gX g5 | exact (Ext.trans gX g5.past) | exact g5.past_drew | exact g5.past_drew.past | exact g5); have j0 : w5.cell? ⟨qs, 0, none⟩ = some (.bool false) := gX.cell s0; have j1 : w5.cell? ⟨qs, 1, none⟩ = some (.int .u16 p) := gX.cell s1; have j2 : w5.cell? ⟨q7, 0, none⟩ = some (.int .u32 wd) := gX.cell c70; have j3 : w5.cell? ⟨q7, 1, none⟩ = some (.int .u32 cd) := gX.cell c71; have j4 : w5.cell? ⟨q7, 2, none⟩ = some (.slice a7 r.length k7) := gX.cell c72; have m0 := World.new_ne w5 _ j0; have m1 := World.new_ne w5 _ j1; have m2 := World.new_ne w5 _ j2; have m3 := World.new_ne w5 _ j3; have m4 := World.new_ne w5 _ j4))
          all_goals
            go_wp2_with fail
            go_meet
            first
              | exact ⟨w5.heap.size, a5, k5, rfl, rfl, rfl, gX.size, Blk.new w5 [.int .u32 wdn, .int .u32 cdn, .slice a5 rn.length k5] _, Rd.alloc hR5 _, hF6, gX.alloc _⟩
              | exact ⟨_, a5, k5, rfl, rfl, rfl, kq.1, ((kb.set 0 _).set 1 _).set 2 _, Rd.chg hR5 ((((Chg.refl [_] w5).setCell (p := ⟨_, 0, none⟩) (Or.inl (List.mem_singleton.2 rfl)) _).setCell (p := ⟨_, 1, none⟩) (Or.inl (List.mem_singleton.2 rfl)) _).setCell (p := ⟨_, 2, none⟩) (Or.inl (List.mem_singleton.2 rfl)) _) (fun x hx => by rw [List.mem_singleton.1 hx]; exact Rd8.off_blk hR5 kb), hF6, ((gX.setCell kq.1 _).setCell kq.1 _).setCell kq.1 _⟩
        case rest =>
          clear s0 s1 c70 c71 c72 n0 n1 n2 n3 n4
          obtain ⟨q13, a13, k13, rfl, rfl, rfl, hq13, hB13, hR13, hF13, gA⟩ := hcut
          obtain ⟨wA, rfl⟩ : ∃ wo : World, wo = wc := ⟨_, rfl⟩
          have S1 := S0.ext gA
          have B8A := B8.ext gA
          have B7A := B7.ext gA
          have Rc8A := Rd.ext Rc8 gA
          have s0 := S1.cell 0 _ rfl
          have s1 := S1.cell 1 _ rfl
          have c80 := B8A.cell 0 _ rfl
          have c81 := B8A.cell 1 _ rfl
          have c82 := B8A.cell 2 _ rfl
          have n0 := World.new_ne wA _ s0
          have n1 := World.new_ne wA _ s1
          have n2 := World.new_ne wA _ c80
          have n3 := World.new_ne wA _ c81
          have n4 := World.new_ne wA _ c82
          go_upto_region 10 with fail
          go_cut [15, 16, 17] (fun sx sn se wx => ∃ q a2 k2, sx = .int .i64 bt ∧ sn = .pointer (some ⟨q, 0, none⟩) ∧ se = .int .i64 0 ∧ wA.heap.size ≤ q ∧ Blk wx q 44 [.int .u32 wdn, .int .u32 cdn, .slice a2 tn.length k2] ∧ Rd8 wx (.slice a2 tn.length k2) tn ∧ (∀ y, y < wA.heap.size → (Value.slice a2 tn.length k2).ownBlock ≠ some y) ∧ Ext wA wx)
          case first =>
            go_region_held3 (fun w' => w'.cell? ⟨qs, 0, none⟩ = some (.bool false) ∧ w'.cell? ⟨qs, 1, none⟩ = some (.int .u16 p) ∧ w'.cell? ⟨(q7 + 1), 0, none⟩ = some (.int .u32 wd) ∧ w'.cell? ⟨(q7 + 1), 1, none⟩ = some (.int .u32 cd) ∧ w'.cell? ⟨(q7 + 1), 2, none⟩ = some (.slice a8 t.length k8)) (go_keep)
              (first | (go_at_call 30; refine (p_any (false, p) u0 u1 _).mono ?_; rintro e w5 ⟨rfl, g5⟩; (first | (have kq := newb (wr := wA) (t := 44) (cs := [.int .u32 0, .int .u32 0, .slice none 0 0]) (by first | exact gX.size | exact Nat.le_refl _) g5; have kb := kq.2; have kb0 := kb.cell 0 _ rfl; have kb1 := kb.cell 1 _ rfl; have kb2 := kb.cell 2 _ rfl; have kf0 := kb.frozen 0; have kf1 := kb.frozen 1; have kf2 := kb.frozen 2) | (have kq := newb_drew (wr := wA) (t := 44) (cs := [.int .u32 0, .int .u32 0, .slice none 0 0]) (by first | exact gX.size | exact Nat.le_refl _) g5; have kb := kq.2; have kb0 := kb.cell 0 _ rfl; have kb1 := kb.cell 1 _ rfl; have kb2 := kb.cell 2 _ rfl; have kf0 := kb.frozen 0; have kf1 := kb.frozen 1; have kf2 := kb.frozen 2) | (have kb := kb.ext g5; have kb0 := kb.cell 0 _ rfl; have kb1 := kb.cell 1 _ rfl; have kb2 := kb.cell 2 _ rfl; have kf0 := kb.frozen 0; have kf1 := kb.frozen 1; have kf2 := kb.frozen 2) | skip); have gX : Ext wA w5 := (by first | exact Ext.trans gX g5 | exact (Ext.trans gX g5.past) | exact g5.past_drew | exact g5.past_drew.past | exact g5); have j0 : w5.cell? ⟨qs, 0, none⟩ = some (.bool false) := gX.cell s0; have j1 : w5.cell? ⟨qs, 1, none⟩ = some (.int .u16 p) := gX.cell s1; have j2 : w5.cell? ⟨(q7 + 1), 0, none⟩ = some (.int .u32 wd) := gX.cell c80; have j3 : w5.cell? ⟨(q7 + 1), 1, none⟩ = some (.int .u32 cd) := gX.cell c81; have j4 : w5.cell? ⟨(q7 + 1), 2, none⟩ = some (.slice a8 t.length k8) := gX.cell c82; have m0 := World.new_ne w5 _ j0; have m1 := World.new_ne w5 _ j1; have m2 := World.new_ne w5 _ j2; have m3 := World.new_ne w5 _ j3; have m4 := World.new_ne w5 _ j4) | (go_at_call 22; refine (decode_fresh wd cd (pOf (false, p)) _ t _ (by first | exact Rd.ext Rc8A gX | exact Rd.alloc (Rd.ext Rc8A gX) _ | exact Rd.drew Rc8A | exact Rd.drew (Rd.alloc Rc8A _) | exact Rc8A) chk8 (prb_p p) by8 c0 c1 w1).mono ?_; rw [ok8.out]; rintro e w5 ⟨a5, k5, rfl, hR5, hF5, g5⟩; have hF6 : ∀ y, y < wA.heap.size → (Value.slice a5 tn.length k5).ownBlock ≠ some y := fun y hy => hF5 y (by have hq := gX.size; try simp; omega); (first | (have kq := newb (wr := wA) (t := 44) (cs := [.int .u32 0, .int .u32 0, .slice none 0 0]) (by first | exact gX.size | exact Nat.le_refl _) g5; have kb := kq.2; have kb0 := kb.cell 0 _ rfl; have kb1 := kb.cell 1 _ rfl; have kb2 := kb.cell 2 _ rfl; have kf0 := kb.frozen 0; have kf1 := kb.frozen 1; have kf2 := kb.frozen 2) | (have kq := newb_drew (wr := wA) (t := 44) (cs := [.int .u32 0, .int .u32 0, .slice none 0 0]) (by first | exact gX.size | exact Nat.le_refl _) g5; have kb := kq.2; have kb0 := kb.cell 0 _ rfl; have kb1 := kb.cell 1 _ rfl; have kb2 := kb.cell 2 _ rfl; have kf0 := kb.frozen 0; have kf1 := kb.frozen 1; have kf2 := kb.frozen 2) | (have kb := kb.ext g5; have kb0 := kb.cell 0 _ rfl; have kb1 := kb.cell 1 _ rfl; have kb2 := kb.cell 2 _ rfl; have kf0 := kb.frozen 0; have kf1 := kb.frozen 1; have kf2 := kb.frozen 2) | skip); have gX : Ext wA w5 := (by first | exact Ext.trans gX g5 | exact (Ext.trans gX g5.past) | exact g5.past_drew | exact g5.past_drew.past | exact g5); have j0 : w5.cell? ⟨qs, 0, none⟩ = some (.bool false) := gX.cell s0; have j1 : w5.cell? ⟨qs, 1, none⟩ = some (.int .u16 p) := gX.cell s1; have j2 : w5.cell? ⟨(q7 + 1), 0, none⟩ = some (.int .u32 wd) := gX.cell c80; have j3 : w5.cell? ⟨(q7 + 1), 1, none⟩ = some (.int .u32 cd) := gX.cell c81; have j4 : w5.cell? ⟨(q7 + 1), 2, none⟩ = some (.slice a8 t.length k8) := gX.cell c82; have m0 := World.new_ne w5 _ j0; have m1 := World.new_ne w5 _ j1; have m2 := World.new_ne w5 _ j2; have m3 := World.new_ne w5 _ j3; have m4 := World.new_ne w5 _ j4))
            all_goals
              go_wp2_with fail
              go_meet
              first
                | exact ⟨w5.heap.size, a5, k5, rfl, rfl, rfl, gX.size, Blk.new w5 [.int .u32 wdn, .int .u32 cdn, .slice a5 tn.length k5] _, Rd.alloc hR5 _, hF6, gX.alloc _⟩
                | exact ⟨_, a5, k5, rfl, rfl, rfl, kq.1, ((kb.set 0 _).set 1 _).set 2 _, Rd.chg hR5 ((((Chg.refl [_] w5).setCell (p := ⟨_, 0, none⟩) (Or.inl (List.mem_singleton.2 rfl)) _).setCell (p := ⟨_, 1, none⟩) (Or.inl (List.mem_singleton.2 rfl)) _).setCell (p := ⟨_, 2, none⟩) (Or.inl (List.mem_singleton.2 rfl)) _) (fun x hx => by rw [List.mem_singleton.1 hx]; exact Rd8.off_blk hR5 kb), hF6, ((gX.setCell kq.1 _).setCell kq.1 _).setCell kq.1 _⟩
          case rest =>
            clear s0 s1 c80 c81 c82 n0 n1 n2 n3 n4
            obtain ⟨q16, a16, k16, rfl, rfl, rfl, hq16, hB16, hR16, hF16, gB⟩ := hcut
            obtain ⟨wB, rfl⟩ : ∃ wo : World, wo = wc := ⟨_, rfl⟩
            have hb0 : ¬ bt < 0 := by omega
            have hb1 : ¬ 1 < bt := by omega
            have S2 := S1.ext gB
            have z0 := S2.cell 0 _ rfl
            have z1 := S2.cell 1 _ rfl
            have zf := S2.frozen 0
            have B13 := hB13.ext gB
            have B7B := B7A.ext gB
            have B8B := B8A.ext gB
            have R13 := Rd.ext hR13 gB
            have EB := (EW.trans gA).trans gB
            have hOB := own_ext hO.out EB
            have hEB := hE.trans EB
            have hsz1 := gA.size
            have hsz2 := gB.size
            have hqsW := S0.lt
            have hq13A := hB13.lt
            have h13s : 0 < rn.length → (Value.slice a13 rn.length k13).ownBlock ≠ some qs := fun _ => hF13 qs hqsW
            have h16s : 0 < tn.length → (Value.slice a16 tn.length k16).ownBlock ≠ some qs := fun _ => hF16 qs (by omega)
            have hown : ∀ g, (Value.slice a9 k k9).ownBlock = some g → g < qs := fun g hg => by have := (own_lt hO.out hg).2; omega
            have hfin : Hid (sts (bitsOf (opF b) (ps.take (k + 1))) = sts (bitsOf (opF b) (ps.take k)) ++ [.bool (decide (bt = 1)), .int .u16 p]) := by refine hidden ?_; rw [hbits.out]; unfold sts; rw [List.flatMap_append]; rfl
            clear hO hE S0 S1 B7 B8 B7A B8A Rc7 Rc8 Rc8A gA gB hB13 hR13 hB7 hB8 hR7 hR8 EW
            rcases hbit with rfl | rfl
            · go_wp2_with fail
              have hC := (Chg.refl [qs] wB).setCell (p := ⟨qs, 0, none⟩) (Or.inl (by simp)) (.bool false)
              have T0 := S2.set 0 (.bool false)
              have T13 := B13.set_other (i := 0) (show q13 ≠ qs by omega) (.bool false)
              have T16 := hB16.set_other (i := 0) (show q16 ≠ qs by omega) (.bool false)
              have T7 := B7B.set_other (i := 0) (show q7 ≠ qs by omega) (.bool false)
              have T8 := B8B.set_other (i := 0) (show q7 + 1 ≠ qs by omega) (.bool false)
              have U13 := Rd.chg R13 hC (by intro x hx; simp at hx; subst hx; exact h13s)
              have U16 := Rd.chg hR16 hC (by intro x hx; simp at hx; subst hx; exact h16s)
              have hne9 : (Value.slice a9 k k9).ownBlock ≠ some qs := fun e => Nat.lt_irrefl _ (hown qs e)
              have hOC := own_chg hOB hC (by intro x hx; simp at hx; subst hx; exact hne9)
              have hEC := hEB.setCell (p := ⟨qs, 0, none⟩) (by omega) (.bool false)
              obtain ⟨WC, hWC⟩ : ∃ W, wB.setCell ⟨qs, 0, none⟩ (.bool false) = W := ⟨_, rfl⟩
              rw [hWC] at T0 T13 T16 T7 T8 U13 U16 hOC hEC
              rw [hWC]
              clear hWC hC z0 z1 zf hOB hEB
              simp only [List.set_cons_zero] at T0
              have hszC := hEC.size
              have N7 := own_ne_blk hOC T7 (by decide)
              have N8 := own_ne_blk hOC T8 (by decide)
              have N13 := own_ne_blk hOC T13 (by decide)
              have N16 := own_ne_blk hOC T16 (by decide)
              have t0 := T0.cell 0 _ rfl
              have t1 := T0.cell 1 _ rfl
              have t2 := T13.cell 0 _ rfl
              have t3 := T13.cell 1 _ rfl
              have t4 := T13.cell 2 _ rfl
              have t5 := T16.cell 0 _ rfl
              have t6 := T16.cell 1 _ rfl
              have t7 := T16.cell 2 _ rfl
              have m0 := World.new_ne WC _ t0
              have m1 := World.new_ne WC _ t1
              have m2 := World.new_ne WC _ t2
              have m3 := World.new_ne WC _ t3
              have m4 := World.new_ne WC _ t4
              have m5 := World.new_ne WC _ t5
              have m6 := World.new_ne WC _ t6
              have m7 := World.new_ne WC _ t7
              have d1 : q13 ≠ q7 := by omega
              have d2 : q13 ≠ q7 + 1 := by omega
              have d3 : q16 ≠ q7 := by omega
              have d4 : q16 ≠ q7 + 1 := by omega
              have d5 : qs ≠ q7 := by omega
              have d6 : qs ≠ q7 + 1 := by omega
              have d1' := d1.symm
              have d2' := d2.symm
              have d3' := d3.symm
              have d4' := d4.symm
              have d5' := d5.symm
              have d6' := d6.symm
              have hk64 : k + 1 ≤ 300 := by omega
              have T0 := hidden T0
              have hOC := hidden hOC
              go_region_held3 (fun w' => w'.cell? ⟨qs, 0, none⟩ = some (.bool false) ∧ w'.cell? ⟨qs, 1, none⟩ = some (.int .u16 p) ∧ w'.cell? ⟨q13, 0, none⟩ = some (.int .u32 wdn) ∧ w'.cell? ⟨q13, 1, none⟩ = some (.int .u32 cdn) ∧ w'.cell? ⟨q13, 2, none⟩ = some (.slice a13 rn.length k13) ∧ w'.cell? ⟨q16, 0, none⟩ = some (.int .u32 wdn) ∧ w'.cell? ⟨q16, 1, none⟩ = some (.int .u32 cdn) ∧ w'.cell? ⟨q16, 2, none⟩ = some (.slice a16 tn.length k16)) (go_keep)
                ((refine step_append_lies _ (by rfl) _ _ _ (by rfl) w.heap.size 60 j0 (.agg #[.bool false, .int .u16 0]) 2 4 Try.underlying55 ji jz0 jz1 jz2 rfl (by decide) (.slice a9 k k9) k (sts (bitsOf (opF b) (ps.take k))) (by rfl) ((World.ownsRow.alloc hOC.out _).drew) ⟨WC.heap.size, 0, none⟩ 1 1 [.bool false, .int .u16 p] (by rfl) (by rfl) (World.news_of_block (cs := #[.bool false, .int .u16 p]) (t := 60) (fr := (0, 0)) (heap_alloc_new WC _)) (by simp [Value.oneCell']) (by omega) (by unfold maxLen; omega) (by omega) (by simp; omega) (WC.heap.size + 1) (by simp) ?_; intro gg cap w1 hown1 hgrow hat hlt; have b0 := ((T0.out.alloc (.cells #[.bool false, .int .u16 p] 60)).drew).grown hgrow hne9; have b13 := ((T13.alloc (.cells #[.bool false, .int .u16 p] 60)).drew).grown hgrow N13; have b16 := ((T16.alloc (.cells #[.bool false, .int .u16 p] 60)).drew).grown hgrow N16; have b7 := ((T7.alloc (.cells #[.bool false, .int .u16 p] 60)).drew).grown hgrow N7; have b8 := ((T8.alloc (.cells #[.bool false, .int .u16 p] 60)).drew).grown hgrow N8; have e0 := b0.cell 0 _ rfl; have e1 := b0.cell 1 _ rfl; have e2 := b13.cell 0 _ rfl; have e3 := b13.cell 1 _ rfl; have e4 := b13.cell 2 _ rfl; have e5 := b16.cell 0 _ rfl; have e6 := b16.cell 1 _ rfl; have e7 := b16.cell 2 _ rfl; have i0 := b7.cell 0 _ rfl; have i1 := b7.cell 1 _ rfl; have i2 := b7.cell 2 _ rfl; have i3 := b7.frozen 0; have i4 := b7.frozen 1; have i5 := b7.frozen 2; have i6 := b8.cell 0 _ rfl; have i7 := b8.cell 1 _ rfl; have i8 := b8.cell 2 _ rfl; have i9 := b8.frozen 0; have iA := b8.frozen 1; have iB := b8.frozen 2))
              all_goals
                go_wp2_with fail
                go_roundw
                case rel =>
                  have hS9 : ∀ x ∈ (Value.slice a9 k k9).ownBlock.toList, x < qs := fun x hx => hown x (by simpa using hx)
                  have cA := ((Chg.refl (Value.slice a9 k k9).ownBlock.toList WC).alloc (.cells #[.bool false, .int .u16 p] 60)).drew.grown hgrow (fun x hx => Or.inl (by rw [hx]; simp))
                  have X13 := Rd.chg U13 cA (fun x hx _ => hF13 x (by have := hS9 x hx; omega))
                  have X16 := Rd.chg U16 cA (fun x hx _ => hF16 x (by have := hS9 x hx; omega))
                  have hD := ((((((Chg.refl [q7, q7 + 1] w1).setCell (p := ⟨q7, 0, none⟩) (Or.inl (by simp)) (.int .u32 wdn)).setCell (p := ⟨q7, 1, none⟩) (Or.inl (by simp)) (.int .u32 cdn)).setCell (p := ⟨q7, 2, none⟩) (Or.inl (by simp)) (.slice a13 rn.length k13)).setCell (p := ⟨q7 + 1, 0, none⟩) (Or.inl (by simp)) (.int .u32 wdn)).setCell (p := ⟨q7 + 1, 1, none⟩) (Or.inl (by simp)) (.int .u32 cdn)).setCell (p := ⟨q7 + 1, 2, none⟩) (Or.inl (by simp)) (.slice a16 tn.length k16)
                  have hDs : ∀ x ∈ [q7, q7 + 1], x = q7 ∨ x = q7 + 1 := fun x hx => by simpa using hx
                  have Y13 := Rd.chg X13 hD (fun x hx hn => by rcases hDs x hx with rfl | rfl; exact Rd8.off_blk X13 b7 hn; exact Rd8.off_blk X13 b8 hn)
                  have Y16 := Rd.chg X16 hD (fun x hx hn => by rcases hDs x hx with rfl | rfl; exact Rd8.off_blk X16 b7 hn; exact Rd8.off_blk X16 b8 hn)
                  have M7 := own_ne_blk hown1 b7 (by decide)
                  have M8 := own_ne_blk hown1 b8 (by decide)
                  have YO := own_chg hown1 hD (fun x hx => by rcases hDs x hx with rfl | rfl; exact M7; exact M8)
                  have eA := (((Chg.of_ext [] hEC).alloc (.cells #[.bool false, .int .u16 p] 60)).drew.grown hgrow (fun x hx => Or.inr (own_lt hOC.out hx).1)).ext
                  refine ⟨k + 1, wdn, cdn, rn, tn, a13, k13, a16, k16, some ⟨gg, 0, none⟩, cap, by omega, rfl, by go_num, hn1.out, hn2.out, ((((((b7.set 0 _).set 1 _).set 2 _).set_other (by omega) _).set_other (by omega) _).set_other (by omega) _), ((((((b8.set_other (by omega) _).set_other (by omega) _).set_other (by omega) _).set 0 _).set 1 _).set 2 _), Y13, Y16, ?_, ?_, (((((eA.setCell (p := ⟨q7, 0, none⟩) hq7 _).setCell (p := ⟨q7, 1, none⟩) hq7 _).setCell (p := ⟨q7, 2, none⟩) hq7 _).setCell (p := ⟨q7 + 1, 0, none⟩) (Nat.le_succ_of_le hq7) _).setCell (p := ⟨q7 + 1, 1, none⟩) (Nat.le_succ_of_le hq7) _).setCell (p := ⟨q7 + 1, 2, none⟩) (Nat.le_succ_of_le hq7) _⟩
                  · rw [hfin.out]; exact YO
                  · intro g hg
                    obtain rfl : gg = g := by simpa [Value.ownBlock] using hg
                    rcases hat with ha | ha
                    · have := hown gg ha
                      exact ⟨fun _ => hF13 gg (by omega), fun _ => hF16 gg (by omega)⟩
                    · exact ⟨Rd.off U13 (by omega), Rd.off U16 (by omega)⟩
                case measure => simp [intOf]; omega
            · go_wp2_with fail
              have hC := (Chg.refl [qs] wB).setCell (p := ⟨qs, 0, none⟩) (Or.inl (by simp)) (.bool true)
              have T0 := S2.set 0 (.bool true)
              have T13 := B13.set_other (i := 0) (show q13 ≠ qs by omega) (.bool true)
              have T16 := hB16.set_other (i := 0) (show q16 ≠ qs by omega) (.bool true)
              have T7 := B7B.set_other (i := 0) (show q7 ≠ qs by omega) (.bool true)
              have T8 := B8B.set_other (i := 0) (show q7 + 1 ≠ qs by omega) (.bool true)
              have U13 := Rd.chg R13 hC (by intro x hx; simp at hx; subst hx; exact h13s)
              have U16 := Rd.chg hR16 hC (by intro x hx; simp at hx; subst hx; exact h16s)
              have hne9 : (Value.slice a9 k k9).ownBlock ≠ some qs := fun e => Nat.lt_irrefl _ (hown qs e)
              have hOC := own_chg hOB hC (by intro x hx; simp at hx; subst hx; exact hne9)
              have hEC := hEB.setCell (p := ⟨qs, 0, none⟩) (by omega) (.bool true)
              obtain ⟨WC, hWC⟩ : ∃ W, wB.setCell ⟨qs, 0, none⟩ (.bool true) = W := ⟨_, rfl⟩
              rw [hWC] at T0 T13 T16 T7 T8 U13 U16 hOC hEC
              rw [hWC]
              clear hWC hC z0 z1 zf hOB hEB
              simp only [List.set_cons_zero] at T0
              have hszC := hEC.size
              have N7 := own_ne_blk hOC T7 (by decide)
              have N8 := own_ne_blk hOC T8 (by decide)
              have N13 := own_ne_blk hOC T13 (by decide)
              have N16 := own_ne_blk hOC T16 (by decide)
              have t0 := T0.cell 0 _ rfl
              have t1 := T0.cell 1 _ rfl
              have t2 := T13.cell 0 _ rfl
              have t3 := T13.cell 1 _ rfl
              have t4 := T13.cell 2 _ rfl
              have t5 := T16.cell 0 _ rfl
              have t6 := T16.cell 1 _ rfl
              have t7 := T16.cell 2 _ rfl
              have m0 := World.new_ne WC _ t0
              have m1 := World.new_ne WC _ t1
              have m2 := World.new_ne WC _ t2
              have m3 := World.new_ne WC _ t3
              have m4 := World.new_ne WC _ t4
              have m5 := World.new_ne WC _ t5
              have m6 := World.new_ne WC _ t6
              have m7 := World.new_ne WC _ t7
              have d1 : q13 ≠ q7 := by omega
              have d2 : q13 ≠ q7 + 1 := by omega
              have d3 : q16 ≠ q7 := by omega
              have d4 : q16 ≠ q7 + 1 := by omega
              have d5 : qs ≠ q7 := by omega
              have d6 : qs ≠ q7 + 1 := by omega
              have d1' := d1.symm
              have d2' := d2.symm
              have d3' := d3.symm
              have d4' := d4.symm
              have d5' := d5.symm
              have d6' := d6.symm
              have hk64 : k + 1 ≤ 300 := by omega
              have T0 := hidden T0
              have hOC := hidden hOC
              go_region_held3 (fun w' => w'.cell? ⟨qs, 0, none⟩ = some (.bool true) ∧ w'.cell? ⟨qs, 1, none⟩ = some (.int .u16 p) ∧ w'.cell? ⟨q13, 0, none⟩ = some (.int .u32 wdn) ∧ w'.cell? ⟨q13, 1, none⟩ = some (.int .u32 cdn) ∧ w'.cell? ⟨q13, 2, none⟩ = some (.slice a13 rn.length k13) ∧ w'.cell? ⟨q16, 0, none⟩ = some (.int .u32 wdn) ∧ w'.cell? ⟨q16, 1, none⟩ = some (.int .u32 cdn) ∧ w'.cell? ⟨q16, 2, none⟩ = some (.slice a16 tn.length k16)) (go_keep)
                ((refine step_append_lies _ (by rfl) _ _ _ (by rfl) w.heap.size 60 j0 (.agg #[.bool false, .int .u16 0]) 2 4 Try.underlying55 ji jz0 jz1 jz2 rfl (by decide) (.slice a9 k k9) k (sts (bitsOf (opF b) (ps.take k))) (by rfl) ((World.ownsRow.alloc hOC.out _).drew) ⟨WC.heap.size, 0, none⟩ 1 1 [.bool true, .int .u16 p] (by rfl) (by rfl) (World.news_of_block (cs := #[.bool true, .int .u16 p]) (t := 60) (fr := (0, 0)) (heap_alloc_new WC _)) (by simp [Value.oneCell']) (by omega) (by unfold maxLen; omega) (by omega) (by simp; omega) (WC.heap.size + 1) (by simp) ?_; intro gg cap w1 hown1 hgrow hat hlt; have b0 := ((T0.out.alloc (.cells #[.bool true, .int .u16 p] 60)).drew).grown hgrow hne9; have b13 := ((T13.alloc (.cells #[.bool true, .int .u16 p] 60)).drew).grown hgrow N13; have b16 := ((T16.alloc (.cells #[.bool true, .int .u16 p] 60)).drew).grown hgrow N16; have b7 := ((T7.alloc (.cells #[.bool true, .int .u16 p] 60)).drew).grown hgrow N7; have b8 := ((T8.alloc (.cells #[.bool true, .int .u16 p] 60)).drew).grown hgrow N8; have e0 := b0.cell 0 _ rfl; have e1 := b0.cell 1 _ rfl; have e2 := b13.cell 0 _ rfl; have e3 := b13.cell 1 _ rfl; have e4 := b13.cell 2 _ rfl; have e5 := b16.cell 0 _ rfl; have e6 := b16.cell 1 _ rfl; have e7 := b16.cell 2 _ rfl; have i0 := b7.cell 0 _ rfl; have i1 := b7.cell 1 _ rfl; have i2 := b7.cell 2 _ rfl; have i3 := b7.frozen 0; have i4 := b7.frozen 1; have i5 := b7.frozen 2; have i6 := b8.cell 0 _ rfl; have i7 := b8.cell 1 _ rfl; have i8 := b8.cell 2 _ rfl; have i9 := b8.frozen 0; have iA := b8.frozen 1; have iB := b8.frozen 2))
              all_goals
                go_wp2_with fail
                go_roundw
                case rel =>
                  have hS9 : ∀ x ∈ (Value.slice a9 k k9).ownBlock.toList, x < qs := fun x hx => hown x (by simpa using hx)
                  have cA := ((Chg.refl (Value.slice a9 k k9).ownBlock.toList WC).alloc (.cells #[.bool true, .int .u16 p] 60)).drew.grown hgrow (fun x hx => Or.inl (by rw [hx]; simp))
                  have X13 := Rd.chg U13 cA (fun x hx _ => hF13 x (by have := hS9 x hx; omega))
                  have X16 := Rd.chg U16 cA (fun x hx _ => hF16 x (by have := hS9 x hx; omega))
                  have hD := ((((((Chg.refl [q7, q7 + 1] w1).setCell (p := ⟨q7, 0, none⟩) (Or.inl (by simp)) (.int .u32 wdn)).setCell (p := ⟨q7, 1, none⟩) (Or.inl (by simp)) (.int .u32 cdn)).setCell (p := ⟨q7, 2, none⟩) (Or.inl (by simp)) (.slice a13 rn.length k13)).setCell (p := ⟨q7 + 1, 0, none⟩) (Or.inl (by simp)) (.int .u32 wdn)).setCell (p := ⟨q7 + 1, 1, none⟩) (Or.inl (by simp)) (.int .u32 cdn)).setCell (p := ⟨q7 + 1, 2, none⟩) (Or.inl (by simp)) (.slice a16 tn.length k16)
                  have hDs : ∀ x ∈ [q7, q7 + 1], x = q7 ∨ x = q7 + 1 := fun x hx => by simpa using hx
                  have Y13 := Rd.chg X13 hD (fun x hx hn => by rcases hDs x hx with rfl | rfl; exact Rd8.off_blk X13 b7 hn; exact Rd8.off_blk X13 b8 hn)
                  have Y16 := Rd.chg X16 hD (fun x hx hn => by rcases hDs x hx with rfl | rfl; exact Rd8.off_blk X16 b7 hn; exact Rd8.off_blk X16 b8 hn)
                  have M7 := own_ne_blk hown1 b7 (by decide)
                  have M8 := own_ne_blk hown1 b8 (by decide)
                  have YO := own_chg hown1 hD (fun x hx => by rcases hDs x hx with rfl | rfl; exact M7; exact M8)
                  have eA := (((Chg.of_ext [] hEC).alloc (.cells #[.bool true, .int .u16 p] 60)).drew.grown hgrow (fun x hx => Or.inr (own_lt hOC.out hx).1)).ext
                  refine ⟨k + 1, wdn, cdn, rn, tn, a13, k13, a16, k16, some ⟨gg, 0, none⟩, cap, by omega, rfl, by go_num, hn1.out, hn2.out, ((((((b7.set 0 _).set 1 _).set 2 _).set_other (by omega) _).set_other (by omega) _).set_other (by omega) _), ((((((b8.set_other (by omega) _).set_other (by omega) _).set_other (by omega) _).set 0 _).set 1 _).set 2 _), Y13, Y16, ?_, ?_, (((((eA.setCell (p := ⟨q7, 0, none⟩) hq7 _).setCell (p := ⟨q7, 1, none⟩) hq7 _).setCell (p := ⟨q7, 2, none⟩) hq7 _).setCell (p := ⟨q7 + 1, 0, none⟩) (Nat.le_succ_of_le hq7) _).setCell (p := ⟨q7 + 1, 1, none⟩) (Nat.le_succ_of_le hq7) _).setCell (p := ⟨q7 + 1, 2, none⟩) (Nat.le_succ_of_le hq7) _⟩
                  · rw [hfin.out]; exact YO
                  · intro g hg
                    obtain rfl : gg = g := by simpa [Value.ownBlock] using hg
                    rcases hat with ha | ha
                    · have := hown gg ha
                      exact ⟨fun _ => hF13 gg (by omega), fun _ => hF16 gg (by omega)⟩
                    · exact ⟨Rd.off U13 (by omega), Rd.off U16 (by omega)⟩
                case measure => simp [intOf]; omega
      · obtain rfl : k = ps.length := by omega
        have hge : ¬ (ps.length : Int) < (ps.length : Int) := by omega
        have hR : RdS wr (.slice a9 ps.length k9) (bitsOf (opF b) ps) := by
          have := Rd.of_own hO.out
          rw [List.take_length] at this
          unfold RdS
          rw [bitsOf_len]
          exact this
        have hU := bitsOf_u16 (opF b) ps hps
        clear hB7 hB8 hR7 hR8
        go_wp2_with fail
        refine (awake_any _).mono ?_
        rintro e w5 ⟨rfl, g5⟩
        go_wp2_with fail
        refine (CoderReturns_law _ _ hU _ (Rd.ext hR g5)).mono ?_
        rintro e w6 ⟨rfl, g6⟩
        go_wp2_with fail
        go_ret
        exact ⟨rfl, (hE.trans g5).trans g6⟩
  · by_cases hl1 : b.length ≤ 100
    · have hlt1 : ¬ (100 : Int) < (b.length : Int) := by omega
      have hlt2 : (300 : Int) < (ps.length : Int) := by omega
      go_enter Try.func8, Try.ntmps8
      go_wp2_with fail
      refine (awake_any _).mono ?_
      rintro e w1 ⟨rfl, g1⟩
      go_wp2_with fail
      go_ret
      exact ⟨rfl, g1⟩
    · have hlt1 : (100 : Int) < (b.length : Int) := by omega
      go_enter Try.func8, Try.ntmps8
      go_wp2_with fail
      refine (awake_any _).mono ?_
      rintro e w1 ⟨rfl, g1⟩
      go_wp2_with fail
      go_ret
      exact ⟨rfl, g1⟩

end Go.Proofs.Ytnodnfmgklkjeaa
