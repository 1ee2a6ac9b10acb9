/- Layer 35: Expand of the program. -/
import Derived.Test.YtjfdmhdmadnkoaaLe
import Derived.Test.YtjfdmhdmadnkoaaA1
namespace Go.Proofs.Ytjfdmhdmadnkoaa
open Go.RowKit
set_option linter.unusedVariables false
attribute [local go_sem ↓] Go.wp_at_zero Go.wp_at_succ

/-- What Expand leaves. -/
def ExPost (w : World) (r : Int × List Int) (x : Ending) (w' : World) : Prop :=
  ∃ v', x = .returned (.tuple #[v', .int .i64 r.1]) ∧ Own8 w' w.heap.size v' r.2 ∧ Ext w w'
theorem ckL_cons {t : Int × Int × Int} {r : List (Int × Int × Int)} {n : Int} (h : ckL n (t :: r) = 0) : ckT t n = 0 ∧ ckL (n + szT t) r = 0 := by
  rw [ckL] at h
  split at h
  · next h1 => exact absurd h h1
  · next h1 => exact ⟨Classical.not_not.1 h1, h⟩
theorem Own8.news {w : World} (B : Nat) : Own8 w B (.slice none 0 0) [] := World.ownsRow_nil _ _ _ _
theorem Own8.grown {w : World} {B : Nat} {v : Value} {D : List Int} (h : Own8 w B v D) (o : Obj) : Own8 (w.alloc o) B v D := World.ownsRow.alloc h o
theorem own8_ext1 {w0 w w1 : World} (h : Ext w0 w) (o : Obj) {v : Value} {D : List Int} (hown : Own8 w w0.heap.size v D) (hgrow : (w.alloc o).grownBy w1 v.ownBlock) : Ext w0 w1 :=
  (((Chg.of_ext [] h).alloc o).grown hgrow (fun k hk => Or.inr (own_lt hown hk).1)).ext

set_option maxRecDepth 100000 in
set_option maxHeartbeats 2000000 in
theorem lexpand_any (v : Value) (l : List (Int × Int × Int)) (hok : OkTs l) (w : World) (h : Toks w v l) :
    Calls Try.prog 24 #[v] w (ExPost w (expF l)) := by
  have hck := lchk_any v l hok w h
  obtain ⟨a, cap, rfl, h1, h2, h3⟩ := Rd.shape h
  obtain ⟨n, hn⟩ : ∃ n, l.length = n := ⟨_, rfl⟩
  have h : Rd w 3 (.slice a l.length cap) l.length (l.flatMap tkc) := h
  obtain ⟨q, hq⟩ : ∃ q, chkF l = q := ⟨_, rfl⟩
  have hE0 : q ≠ 0 → expF l = (q, []) := fun hq0 => by unfold expF; rw [hq, if_pos hq0]
  have hE1 : q = 0 → expF l = (0, exF [] l) ∧ ckL 0 l = 0 := fun hq0 => by
    unfold expF
    rw [hq, if_neg (by simp [hq0])]
    refine ⟨rfl, ?_⟩
    rw [hq0] at hq
    unfold chkF at hq
    split at hq
    · cases hq
    · exact hq
  simp only [hq] at hck
  rw [hn] at h h1 hck ⊢
  clear hq
  replace hn := hidden hn
  replace h := hidden h
  replace hok := hidden hok
  replace hck := hidden hck
  by_cases hq0 : q = 0
  · subst hq0
    obtain ⟨hE1, hE2⟩ := hE1 rfl
    rw [hE1]
    replace hE2 := hidden hE2
    clear hE0 hE1
    go_enter Try.func24, Try.ntmps24
    go_wp2_with fail
    refine hck.out.mono ?_
    rintro e w1 ⟨rfl, g1⟩
    go_wp2_with fail
    obtain ⟨R, hR⟩ : ∃ R, exF [] l = R := ⟨_, rfl⟩
    rw [hR]
    replace hR := hidden hR
    go_loopw [5, 15] (fun s i wr => ∃ (k m : Nat) (ad : Option Addr) (c : Nat) (E : List Int), k ≤ n ∧ i = .int .i64 (k : Int) ∧ s = .slice ad m c ∧ m ≤ 65536 ∧ Hid (E.length = m) ∧ Hid (Own8 wr w.heap.size (.slice ad m c) E) ∧ Hid (Bytes E) ∧ Hid (R = exF E (l.drop k)) ∧ Hid (ckL (m : Int) (l.drop k) = 0) ∧ Ext w wr) (fun _ i _ => n - (intOf i).toNat)
    case atStart => exact ⟨0, 0, none, 0, [], by omega, rfl, rfl, by omega, rfl, Own8.news _, (fun x hx => by cases hx), hR.out.symm, hE2.out, g1⟩
    case round =>
      obtain ⟨k, m, ad, c, E, hk, rfl, rfl, hm, hEl, hO, hBy, hl, hc, hX⟩ := hrel
      obtain ⟨W, hWW⟩ : ∃ W, W = wr := ⟨_, rfl⟩
      subst hWW
      by_cases hlt : k < n
      · obtain ⟨b, off, rfl, -, -⟩ := h.out.cells (by omega)
        obtain ⟨x, hx, hxm⟩ := at_lt l (k := k) (by rw [hn.out]; exact hlt)
        obtain ⟨c0, c1, c2⟩ := rd3_at tkc_len h.out k x hx _ _ _ rfl
        have hdr := drop_at hx
        obtain ⟨L, D, B⟩ := x
        obtain ⟨⟨x0, x1⟩, ⟨x2, x3⟩, x4, x5⟩ := hok.out _ hxm
        have hc2 := hc.out
        have hl2 := hl.out
        rw [hdr] at hc2 hl2
        obtain ⟨t1, t2⟩ := ckL_cons hc2
        obtain ⟨u1, u2, u3⟩ := ckT_ok t1
        simp only at x0 x1 x2 x3 x4 x5 c0 c1 c2 u2
        have d0 := hX.cell c0
        have d1 := hX.cell c1
        have d2 := hX.cell c2
        have BT := Blk.new W [.int .i64 L, .int .i64 D, .int .u8 B] 60
        replace hx := hidden hx
        replace hxm := hidden hxm
        replace t1 := hidden t1
        replace t2 := hidden t2
        replace u1 := hidden u1
        replace u3 := hidden u3
        replace hl2 := hidden hl2
        replace BT := hidden BT
        have hsz := hX.size
        clear hc2 hdr c0 c1 c2 hc hl
        by_cases hL : L = 0
        · have hex : Hid (ex1 E (L, D, B) = E ++ [B]) := by show ex1 E (L, D, B) = _; unfold ex1; exact if_pos hL
          have hsT : Hid (szT (L, D, B) = 1) := by show _ = _; unfold szT; exact if_pos (by show L < 1; omega)
          have u4 := u3.out
          rw [hsT.out] at u4
          subst hL
          have e0 := BT.out.cell 0 _ rfl
          have e2 := BT.out.cell 2 _ rfl
          have hBn := Blk.newAt (W.alloc (.cells #[.int .i64 0, .int .i64 D, .int .u8 B] 60)) [.int .u8 B] 5 (W.heap.size + 1) (by simp)
          have f0 := hBn.cell 0 _ rfl
          replace hBn := hidden hBn
          go_wp2_with (at_builtin; refine wpList_append1 (by rfl) _ _ (by rfl) w.heap.size (.slice ad m c) E B (W.heap.size + 1) (Own8.grown (Own8.grown hO.out _) _) (by rfl) (by rfl) f0 (by rw [hEl.out]; omega) (by simp; omega) ?_; rw [hEl.out]; intro g cap' w1 hO1 hg1 hat1 hlt1)
          have hX1 : Ext w w1 := own8_ext1 (hX.alloc _) _ (Own8.grown hO.out _) hg1
          go_round
          case rel => exact ⟨k + 1, m + 1, _, _, E ++ [B], by omega, by go_num, rfl, by omega, hidden (by simp [hEl.out]), hO1, hBy.out.snoc x4 x5, by show _ = _; rw [hl2.out, exF, hex.out], by show _ = _; have := t2.out; rw [hsT.out] at this; exact this, hX1⟩
          case measure => simp [intOf]; omega
        · obtain ⟨-, v2, v3, v4, v5⟩ := Wr_copy u1.out hL
          simp only at v2 v3 v4 v5
          have hex : Hid (ex1 E (L, D, B) = cpy D.toNat L.toNat E) := by show ex1 E (L, D, B) = _; unfold ex1; exact if_neg hL
          have hsT : Hid (szT (L, D, B) = L) := by show _ = _; unfold szT; exact if_neg (by show ¬ L < 1; omega)
          have u4 := u3.out
          rw [hsT.out] at u4
          have hL0 : (L == 0) = false := by simp [hL]
          obtain ⟨R2, hR2⟩ : ∃ R2, cpy D.toNat L.toNat E = R2 := ⟨_, rfl⟩
          have hR2 := hidden hR2
          have e0 := BT.out.cell 0 _ rfl
          clear hL
          go_wp2_with fail
          go_loopw [5, 29] (fun s i w2 => ∃ (j : Nat) (ad2 : Option Addr) (c2 : Nat) (E2 : List Int), (j : Int) ≤ L ∧ i = .int .i64 (j : Int) ∧ s = .slice ad2 (m + j) c2 ∧ Hid (E2.length = m + j) ∧ Hid (Own8 w2 w.heap.size (.slice ad2 (m + j) c2) E2) ∧ Hid (Bytes E2) ∧ Hid (R2 = cpy D.toNat (L.toNat - j) E2) ∧ Hid (Blk w2 W.heap.size 60 [.int .i64 L, .int .i64 D, .int .u8 B]) ∧ Ext w w2) (fun _ i _ => L.toNat - (intOf i).toNat)
          case atStart => exact ⟨0, ad, c, E, by omega, rfl, rfl, hEl, Own8.grown hO.out _, hBy, hR2.out.symm, BT.out, hX.alloc _⟩
          case round =>
            obtain ⟨j, ad2, c2, E2, hj, rfl, rfl, hEl2, hO2, hBy2, hl3, hB2, hX2⟩ := hrel
            by_cases hjl : (j : Int) < L
            · have hsp : L.toNat - j = (L.toNat - (j + 1)) + 1 := by omega
              have hlen2 : D.toNat ≤ E2.length := by rw [hEl2.out]; omega
              have hpos : 0 < E2.length := by rw [hEl2.out]; omega
              have hsh := Own8.shape hO2.out
              have hg : ∃ g, ad2 = some ⟨g, 0, none⟩ := by
                rcases hsh with ⟨hs1, hs2⟩ | ⟨g, cp, hs1, -⟩
                · rw [hs2] at hpos; exact absurd hpos (by simp)
                · simp only [Value.slice.injEq] at hs1; exact ⟨g, hs1.1⟩
              obtain ⟨g, rfl⟩ := hg
              have hcx := Rd8.at hO2.out.rd (E2.length - D.toNat) (by omega)
              have hyb := getD_bd8 hBy2.out (E2.length - D.toNat)
              obtain ⟨y, hy⟩ : ∃ y, E2.getD (E2.length - D.toNat) 0 = y := ⟨_, rfl⟩
              rw [hy] at hcx hyb
              rw [hEl2.out, Nat.zero_add] at hcx
              have hl4 : Hid (R2 = cpy D.toNat (L.toNat - (j + 1)) (E2 ++ [y])) := by show _ = _; rw [hl3.out, hsp, cpy, hy]
              obtain ⟨y0, y1⟩ := hyb
              have hsz2 := hX2.size
              have d1' := hB2.out.cell 1 _ rfl
              have hi1 : (0 : Int) ≤ (m : Int) + (j : Int) - D := by omega
              have hi2 : (m : Int) + (j : Int) - D < (m : Int) + (j : Int) := by omega
              have hi3 : ((m : Int) + (j : Int) - D).toNat = m + j - D.toNat := by omega
              have hBn := Blk.new wr [.int .u8 y] 5
              have f0 := hBn.cell 0 _ rfl
              have hml : m + j ≤ 70000 := by omega
              clear hy hsp hlen2 hpos hsh hl3
              replace hBn := hidden hBn
              go_wp2_with (at_builtin; refine wpList_append1 (by rfl) _ _ (by rfl) w.heap.size (.slice (some ⟨g, 0, none⟩) (m + j) c2) E2 y wr.heap.size (Own8.grown hO2.out _) (by rfl) (by rfl) f0 (by rw [hEl2.out]; omega) (by simp; omega) ?_; rw [hEl2.out]; intro g' cap' w3 hO3 hg3 hat3 hlt3)
              have hX3 : Ext w w3 := own8_ext1 hX2 _ hO2.out hg3
              have hB3 := (hB2.out.alloc (.cells #[.int .u8 y] 5)).grown hg3 (fun e => own_ne_blk hO2.out hB2.out (by decide) e)
              go_round
              case rel => exact ⟨j + 1, _, _, E2 ++ [y], by omega, by go_num, rfl, hidden (by simp [hEl2.out]; omega), hO3, hBy2.out.snoc y0 y1, hl4, hB3, hX3⟩
              case measure => simp [intOf]; omega
            · obtain rfl : L = (j : Int) := by omega
              have hfin : Hid (R2 = E2) := by show _ = _; rw [hl3.out, show (j : Int).toNat - j = 0 by omega]; rfl
              go_wp2_with fail
              go_round
              case rel => exact ⟨k + 1, m + j, _, _, E2, by omega, by go_num, rfl, by omega, hEl2, hO2, hBy2, by show _ = _; rw [hl2.out, exF, hex.out, hR2.out, hfin.out], by show _ = _; have := t2.out; rw [hsT.out] at this; rw [Int.natCast_add]; exact this, hX2⟩
              case measure => simp [intOf]; omega
      · obtain rfl : k = n := by omega
        have hE3 : Hid (R = E) := by show _ = _; rw [hl.out, List.drop_of_length_le (by rw [hn.out]; exact Nat.le_refl _)]; rfl
        go_wp2_with fail
        go_ret2
        exact ⟨_, rfl, by show Own8 _ _ _ (exF [] l); rw [hR.out, hE3.out]; exact hO.out, hX⟩
  · have hq1 : (q != 0) = true := by simp [hq0]
    rw [hE0 hq0]
    clear hE0 hE1 hq0
    go_enter Try.func24, Try.ntmps24
    go_wp2_with fail
    refine hck.out.mono ?_
    rintro e w1 ⟨rfl, g1⟩
    go_wp2_with fail
    go_ret2
    exact ⟨_, rfl, Own8.news _, g1⟩
end Go.Proofs.Ytjfdmhdmadnkoaa
