/- The code of steps: the walk. -/
import Derived.Test.YtnodnfmgklkjeaaCw
namespace Go.Proofs.Ytnodnfmgklkjeaa
open Go.RowKit
set_option linter.unusedVariables false
attribute [local go_sem ↓] Go.wp_at_zero Go.wp_at_succ

def stp (x : Bool × Int) : List Value := [.bool x.1, .int .u16 x.2]
def sts (l : List (Bool × Int)) : List Value := l.flatMap stp
theorem sts_len (l : List (Bool × Int)) : (sts l).length = l.length * 2 := by
  unfold sts
  induction l with
  | nil => rfl
  | cons x l ih => rw [List.flatMap_cons, List.length_append, ih, List.length_cons]; simp [stp]; omega
theorem sts_get (l : List (Bool × Int)) (i : Nat) (h : i < l.length) : (sts l)[i * 2]? = some (.bool (l.getD i (false, 0)).1) ∧ (sts l)[i * 2 + 1]? = some (.int .u16 (l.getD i (false, 0)).2) := by
  unfold sts
  induction l generalizing i with
  | nil => simp at h
  | cons x l ih =>
    rw [List.flatMap_cons]
    cases i with
    | zero => simp [stp]
    | succ i =>
      have := ih i (by simpa using h)
      rw [show (i + 1) * 2 = i * 2 + 2 by omega, show i * 2 + 2 + 1 = (i * 2 + 1) + 2 by omega]
      simpa [stp] using this
def RdS (w : World) (v : Value) (l : List (Bool × Int)) : Prop := Rd w 2 v l.length (sts l)
theorem RdS.at {w : World} {b off n cap : Nat} {l : List (Bool × Int)} (h : RdS w (.slice (some ⟨b, off, none⟩) n cap) l) (i : Nat) (hi : i < l.length) :
    w.cell? ⟨b, off + i * 2, none⟩ = some (.bool (l.getD i (false, 0)).1) ∧ w.cell? ⟨b, off + i * 2 + 1, none⟩ = some (.int .u16 (l.getD i (false, 0)).2) := by
  have hn : 0 < l.length := by omega
  obtain ⟨_, a', cap', h2, _, _, _, h6⟩ := h
  simp only [Value.slice.injEq] at h2
  obtain ⟨rfl, -, -⟩ := h2
  obtain ⟨b', off', e, -, hc⟩ := h6 hn
  simp only [Option.some.injEq, Addr.mk.injEq, and_true] at e
  obtain ⟨rfl, rfl⟩ := e
  obtain ⟨g1, g2⟩ := sts_get l i hi
  have hl := sts_len l
  have c1 := hc (i * 2) (by omega)
  have c2 := hc (i * 2 + 1) (by omega)
  refine ⟨?_, ?_⟩
  · rw [c1]; simp [List.getD, g1]
  · rw [← Nat.add_assoc] at c2
    rw [c2]; simp [List.getD, g2]
def U16 (l : List (Bool × Int)) : Prop := ∀ x ∈ l, 0 ≤ x.2 ∧ x.2 ≤ 65535

/-- Bytes do not lie in a block of other cells. -/
theorem Rd8.off_blk {w : World} {v : Value} {l : List Int} {q : Nat} {t : TypeId} {a b : Int} {x : Option Addr} {y z : Nat} (h : Rd8 w v l) (hB : Blk w q t [.int .u32 a, .int .u32 b, .slice x y z]) : 0 < l.length → v.ownBlock ≠ some q := by
  intro hn hv
  obtain ⟨_, a', cap', rfl, _, _, _, h6⟩ := h
  obtain ⟨b', off', rfl, -, hc⟩ := h6 hn
  simp [Value.ownBlock] at hv
  subst hv
  have h1 := hc 0 (by rw [bs_len]; exact hn)
  rw [bs_get l 0 hn, Nat.add_zero] at h1
  unfold Blk at hB
  simp [World.cell?, hB] at h1
  match off' with
  | 0 => simp at h1
  | 1 => simp at h1
  | 2 => simp at h1
  | n + 3 => simp at h1

theorem newb {wr wA w5 : World} {t : TypeId} {cs : List Value} (h : wr.heap.size ≤ wA.heap.size) (g : Ext (wA.alloc (.cells cs.toArray t)) w5) : wr.heap.size ≤ wA.heap.size ∧ Blk w5 wA.heap.size t cs := ⟨h, (Blk.new wA cs t).ext g⟩
theorem newb_drew {wr wA w5 : World} {t : TypeId} {cs : List Value} (h : wr.heap.size ≤ wA.heap.size) (g : Ext (wA.alloc (.cells cs.toArray t)).drew w5) : wr.heap.size ≤ wA.heap.size ∧ Blk w5 wA.heap.size t cs := ⟨h, (Blk.new wA cs t).drew.ext g⟩

def s0 : St := (4294967295, 0, [])
def stAt (l : List (Bool × Int)) (k : Nat) : St := encs s0 ((l.take k).map stepOf)
theorem stAt_succ (l : List (Bool × Int)) (k : Nat) (h : k < l.length) : stAt l (k + 1) = encS (stAt l k) (stepOf (l.getD k (false, 0))) := by
  unfold stAt
  rw [List.take_succ_eq_append_getElem h, List.map_append, List.map_singleton, encs_snoc]
  simp [List.getD, h]
theorem stAt_inv (l : List (Bool × Int)) (k : Nat) : SInv (stAt l k) :=
  SInv.steps SInv.first _ (fun x hx => by obtain ⟨y, _, rfl⟩ := List.mem_map.1 hx; exact step_ok y)
theorem stAt_len (l : List (Bool × Int)) (k : Nat) (hk : k ≤ l.length) : (stAt l k).2.2.length ≤ 3 * k := by
  induction k with
  | zero => simp [stAt, encs, s0]
  | succ k ih =>
    have h1 := ih (by omega)
    rw [stAt_succ l k (by omega)]
    have := enc_len (stAt l k).1 (stAt l k).2.1 (stAt l k).2.2 (stepOf (l.getD k (false, 0))).1 (stepOf (l.getD k (false, 0))).2
    unfold encS
    omega
def codeOf (l : List (Bool × Int)) : List Int := trim (finL (stAt l l.length).2.1 (stAt l l.length).1 (stAt l l.length).2.2)
theorem encF_ok (s : St) (x : Int × Int) (h : SInv s) (hx : Step x) (hl : s.2.2.length + 3 ≤ 65536) : encF s.2.1 s.1 s.2.2 x.1 x.2 = (0, (encS s x).2.1, (encS s x).1, (encS s x).2.2) := by
  have hc : chk s.1 s.2.2.length = 0 := by unfold chk; rw [if_neg (by have := h.2; omega), if_neg (by omega)]
  have hp : prb x.2 = true := by unfold prb; simp [hx.2.1, hx.2.2]
  have hlen := enc_len s.1 s.2.1 s.2.2 x.1 x.2
  unfold encF
  rw [if_neg (by simp [hc])]
  rw [if_neg (by rcases hx.1 with h | h <;> simp [h])]
  rw [if_neg (by simp [hp])]
  simp only [encS]
  rw [if_neg (by omega)]

set_option maxHeartbeats 2000000 in
theorem code_any (v : Value) (l : List (Bool × Int)) (hu : U16 l) (hl : l.length ≤ 10000) (w : World) (h : RdS w v l) :
    Calls Try.prog 29 #[v] w fun x w' => ∃ a k, x = .returned (.tuple #[.slice a (codeOf l).length k, .bool true]) ∧ Rd8 w' (.slice a (codeOf l).length k) (codeOf l) ∧ Ext w w' := by
  obtain ⟨a, cap, rfl, h1, h2, h3⟩ := Rd.shape h
  obtain ⟨n, hn⟩ : ∃ n, l.length = n := ⟨_, rfl⟩
  go_enter Try.func29, Try.ntmps29
  go_wp2_with fail
  refine (Begin_any _).mono ?_
  rintro e w1 ⟨rfl, g1⟩
  have C1 := Blk.new w1 [.int .u32 0, .int .u32 4294967295, .slice none 0 0] 25
  have E1 : Ext w (w1.alloc (.cells #[.int .u32 0, .int .u32 4294967295, .slice none 0 0] 25)) := g1.alloc _
  obtain ⟨qc, hqc⟩ : ∃ q, w1.heap.size = q := ⟨_, rfl⟩
  have hsz := g1.size
  rw [hqc] at C1 hsz
  go_wp2_with fail
  go_loopw [5] (fun i wr => ∃ (k : Nat) (lo wd : Int) (v' : Value) (out : List Int), k ≤ l.length ∧ i = .int .i64 k ∧ stAt l k = (wd, lo, out) ∧ Blk wr qc 25 [.int .u32 lo, .int .u32 wd, v'] ∧ Rd8 wr v' out ∧ (0 < out.length → v'.ownBlock ≠ some qc) ∧ Ext w wr) (fun i _ => (l.length - intOf i).toNat)
  case atStart => exact ⟨0, 0, 4294967295, .slice none 0 0, [], by omega, rfl, rfl, C1, Rd8.nil _, (fun h => absurd h (by decide)), E1⟩
  case round =>
    obtain ⟨k, lo, wd, v', out, hk, rfl, hst, hB, hR, ho, hE⟩ := hrel
    obtain ⟨av, kv, rfl, s1, s2, s3⟩ := Rd.shape hR
    by_cases hlt : k < l.length
    · have hlt' : (k : Int) < (l.length : Int) := by omega
      obtain ⟨pb, po, rfl⟩ : ∃ b off, a = some ⟨b, off, none⟩ := by
        obtain ⟨_, a', cap', h2, _, _, _, h6⟩ := h
        simp only [Value.slice.injEq] at h2
        obtain ⟨rfl, -, -⟩ := h2
        obtain ⟨b', off', e, -, -⟩ := h6 (by omega)
        exact ⟨b', off', e⟩
      obtain ⟨x1, x2⟩ := RdS.at h k hlt
      have hxu : 0 ≤ (l.getD k (false, 0)).2 ∧ (l.getD k (false, 0)).2 ≤ 65535 := by
        simp only [List.getD, hlt, List.getElem?_eq_getElem, Option.getD_some]
        exact hu _ (List.getElem_mem hlt)
      have hinv := stAt_inv l k
      have hlen := stAt_len l k hk
      have hnext := stAt_succ l k hlt
      have hok := encF_ok (stAt l k) (stepOf (l.getD k (false, 0))) hinv (step_ok _) (by omega)
      rw [hst] at hinv hlen hnext hok
      obtain ⟨x, hx⟩ : ∃ x, l.getD k (false, 0) = x := ⟨_, rfl⟩
      rw [hx] at x1 x2 hxu hnext hok
      have y1 := hE.cell x1
      have y2 := hE.cell x2
      have d0 := hB.cell 0 _ rfl
      have d1 := hB.cell 1 _ rfl
      have d2 := hB.cell 2 _ rfl
      obtain ⟨u0, u1⟩ := hxu
      obtain ⟨wd2, lo2, out2, hE2⟩ : ∃ a b c, encS (wd, lo, out) (stepOf x) = (a, b, c) := ⟨_, _, _, rfl⟩
      rw [hE2] at hnext hok
      have hok' : encF lo wd out (bitOf x) (pOf x) = (0, lo2, wd2, out2) := hok
      have n0 := World.new_ne wr _ y1
      have n1 := World.new_ne wr _ y2
      have n2 := World.new_ne wr _ d0
      have n3 := World.new_ne wr _ d1
      have n4 := World.new_ne wr _ d2
      go_upto_region 5 with fail
      go_cut [6, 7] (fun s6 s7 wx => ∃ q a2 k2, s6 = .pointer (some ⟨q, 0, none⟩) ∧ s7 = .int .i64 0 ∧ Blk wx q 25 [.int .u32 lo2, .int .u32 wd2, .slice a2 out2.length k2] ∧ Rd8 wx (.slice a2 out2.length k2) out2 ∧ Ext wr wx)
      case first =>
       go_region_held3 (fun w' => w'.cell? ⟨pb, po + k * 2, none⟩ = some (.bool x.1) ∧ w'.cell? ⟨pb, po + k * 2 + 1, none⟩ = some (.int .u16 x.2) ∧ w'.cell? ⟨qc, 0, none⟩ = some (.int .u32 lo) ∧ w'.cell? ⟨qc, 1, none⟩ = some (.int .u32 wd) ∧ w'.cell? ⟨qc, 2, none⟩ = some (.slice av out.length kv)) (go_keep)
        (first | (go_at_call 31; refine (bit_any x _).mono ?_; rintro e w5 ⟨rfl, g5⟩; (first | (have kq := newb (wr := wr) (t := 25) (cs := [.int .u32 0, .int .u32 0, .slice none 0 0]) (by first | exact gX.size | exact Nat.le_refl _) g5; have kb := kq.2; have kb0 := kb.cell 0 _ rfl; have kb1 := kb.cell 1 _ rfl; have kb2 := kb.cell 2 _ rfl; have kf0 := kb.frozen 0; have kf1 := kb.frozen 1; have kf2 := kb.frozen 2) | (have kq := newb_drew (wr := wr) (t := 25) (cs := [.int .u32 0, .int .u32 0, .slice none 0 0]) (by first | exact gX.size | exact Nat.le_refl _) g5; have kb := kq.2; have kb0 := kb.cell 0 _ rfl; have kb1 := kb.cell 1 _ rfl; have kb2 := kb.cell 2 _ rfl; have kf0 := kb.frozen 0; have kf1 := kb.frozen 1; have kf2 := kb.frozen 2) | (have kb := kb.ext g5; have kb0 := kb.cell 0 _ rfl; have kb1 := kb.cell 1 _ rfl; have kb2 := kb.cell 2 _ rfl; have kf0 := kb.frozen 0; have kf1 := kb.frozen 1; have kf2 := kb.frozen 2) | skip); have gX : Ext wr w5 := (by first | exact Ext.trans gX g5 | exact (Ext.trans gX g5.past) | exact g5.past_drew | exact g5.past_drew.past | exact g5); have j0 : w5.cell? ⟨pb, po + k * 2, none⟩ = some (.bool x.1) := gX.cell y1; have j1 : w5.cell? ⟨pb, po + k * 2 + 1, none⟩ = some (.int .u16 x.2) := gX.cell y2; have j2 : w5.cell? ⟨qc, 0, none⟩ = some (.int .u32 lo) := gX.cell d0; have j3 : w5.cell? ⟨qc, 1, none⟩ = some (.int .u32 wd) := gX.cell d1; have j4 : w5.cell? ⟨qc, 2, none⟩ = some (.slice av out.length kv) := gX.cell d2; have m0 := World.new_ne w5 _ j0; have m1 := World.new_ne w5 _ j1; have m2 := World.new_ne w5 _ j2; have m3 := World.new_ne w5 _ j3; have m4 := World.new_ne w5 _ j4) | (go_at_call 30; refine (p_any x u0 u1 _).mono ?_; rintro e w5 ⟨rfl, g5⟩; (first | (have kq := newb (wr := wr) (t := 25) (cs := [.int .u32 0, .int .u32 0, .slice none 0 0]) (by first | exact gX.size | exact Nat.le_refl _) g5; have kb := kq.2; have kb0 := kb.cell 0 _ rfl; have kb1 := kb.cell 1 _ rfl; have kb2 := kb.cell 2 _ rfl; have kf0 := kb.frozen 0; have kf1 := kb.frozen 1; have kf2 := kb.frozen 2) | (have kq := newb_drew (wr := wr) (t := 25) (cs := [.int .u32 0, .int .u32 0, .slice none 0 0]) (by first | exact gX.size | exact Nat.le_refl _) g5; have kb := kq.2; have kb0 := kb.cell 0 _ rfl; have kb1 := kb.cell 1 _ rfl; have kb2 := kb.cell 2 _ rfl; have kf0 := kb.frozen 0; have kf1 := kb.frozen 1; have kf2 := kb.frozen 2) | (have kb := kb.ext g5; have kb0 := kb.cell 0 _ rfl; have kb1 := kb.cell 1 _ rfl; have kb2 := kb.cell 2 _ rfl; have kf0 := kb.frozen 0; have kf1 := kb.frozen 1; have kf2 := kb.frozen 2) | skip); have gX : Ext wr w5 := (by first | exact Ext.trans gX g5 | exact (Ext.trans gX g5.past) | exact g5.past_drew | exact g5.past_drew.past | exact g5); have j0 : w5.cell? ⟨pb, po + k * 2, none⟩ = some (.bool x.1) := gX.cell y1; have j1 : w5.cell? ⟨pb, po + k * 2 + 1, none⟩ = some (.int .u16 x.2) := gX.cell y2; have j2 : w5.cell? ⟨qc, 0, none⟩ = some (.int .u32 lo) := gX.cell d0; have j3 : w5.cell? ⟨qc, 1, none⟩ = some (.int .u32 wd) := gX.cell d1; have j4 : w5.cell? ⟨qc, 2, none⟩ = some (.slice av out.length kv) := gX.cell d2; have m0 := World.new_ne w5 _ j0; have m1 := World.new_ne w5 _ j1; have m2 := World.new_ne w5 _ j2; have m3 := World.new_ne w5 _ j3; have m4 := World.new_ne w5 _ j4) | (go_at_call 12; refine (Encode_any lo wd (bitOf x) (pOf x) _ out hinv.1.bytes hinv.1.l0 hinv.1.l1 hinv.1.w1 _ (by first | exact Rd.ext hR gX | exact Rd.alloc (Rd.ext hR gX) _ | exact Rd.drew hR | exact Rd.drew (Rd.alloc hR _) | exact hR)).mono ?_; rw [hok']; rintro e w5 ⟨a5, c5, rfl, hR5, g5⟩; (first | (have kq := newb (wr := wr) (t := 25) (cs := [.int .u32 0, .int .u32 0, .slice none 0 0]) (by first | exact gX.size | exact Nat.le_refl _) g5; have kb := kq.2; have kb0 := kb.cell 0 _ rfl; have kb1 := kb.cell 1 _ rfl; have kb2 := kb.cell 2 _ rfl; have kf0 := kb.frozen 0; have kf1 := kb.frozen 1; have kf2 := kb.frozen 2) | (have kq := newb_drew (wr := wr) (t := 25) (cs := [.int .u32 0, .int .u32 0, .slice none 0 0]) (by first | exact gX.size | exact Nat.le_refl _) g5; have kb := kq.2; have kb0 := kb.cell 0 _ rfl; have kb1 := kb.cell 1 _ rfl; have kb2 := kb.cell 2 _ rfl; have kf0 := kb.frozen 0; have kf1 := kb.frozen 1; have kf2 := kb.frozen 2) | (have kb := kb.ext g5; have kb0 := kb.cell 0 _ rfl; have kb1 := kb.cell 1 _ rfl; have kb2 := kb.cell 2 _ rfl; have kf0 := kb.frozen 0; have kf1 := kb.frozen 1; have kf2 := kb.frozen 2) | skip); have gX : Ext wr w5 := (by first | exact Ext.trans gX g5 | exact (Ext.trans gX g5.past) | exact g5.past_drew | exact g5.past_drew.past | exact g5); have j0 : w5.cell? ⟨pb, po + k * 2, none⟩ = some (.bool x.1) := gX.cell y1; have j1 : w5.cell? ⟨pb, po + k * 2 + 1, none⟩ = some (.int .u16 x.2) := gX.cell y2; have j2 : w5.cell? ⟨qc, 0, none⟩ = some (.int .u32 lo) := gX.cell d0; have j3 : w5.cell? ⟨qc, 1, none⟩ = some (.int .u32 wd) := gX.cell d1; have j4 : w5.cell? ⟨qc, 2, none⟩ = some (.slice av out.length kv) := gX.cell d2; have m0 := World.new_ne w5 _ j0; have m1 := World.new_ne w5 _ j1; have m2 := World.new_ne w5 _ j2; have m3 := World.new_ne w5 _ j3; have m4 := World.new_ne w5 _ j4))
       all_goals
        go_wp2_with fail
        go_meet
        first
          | exact ⟨w5.heap.size, a5, c5, rfl, rfl, Blk.new w5 [.int .u32 lo2, .int .u32 wd2, .slice a5 out2.length c5] _, Rd.alloc hR5 _, gX.alloc _⟩
          | exact ⟨_, a5, c5, rfl, rfl, ((kb.set 0 _).set 1 _).set 2 _, Rd.chg hR5 ((((Chg.refl [_] w5).setCell (p := ⟨_, 0, none⟩) (Or.inl (List.mem_singleton.2 rfl)) _).setCell (p := ⟨_, 1, none⟩) (Or.inl (List.mem_singleton.2 rfl)) _).setCell (p := ⟨_, 2, none⟩) (Or.inl (List.mem_singleton.2 rfl)) _) (fun x hx => by rw [List.mem_singleton.1 hx]; exact Rd8.off_blk hR5 kb), ((gX.setCell kq.1 _).setCell kq.1 _).setCell kq.1 _⟩
      case rest =>
        obtain ⟨q, a2, k2, rfl, rfl, hB2, hR2, g2⟩ := hcut
        have hC2 := hB.ext g2
        have e0 := hB2.cell 0 _ rfl
        have e1 := hB2.cell 1 _ rfl
        have e2 := hB2.cell 2 _ rfl
        have f0 := hC2.frozen 0
        have f1 := hC2.frozen 1
        have f2 := hC2.frozen 2
        have c0 := hC2.cell 0 _ rfl
        have c1 := hC2.cell 1 _ rfl
        have c2 := hC2.cell 2 _ rfl
        have hof := Rd8.off_blk hR2 hC2
        go_wp2_with fail
        go_roundw
        case rel =>
          have hC := (((Chg.refl [qc] wc).setCell (p := ⟨qc, 0, none⟩) (Or.inl (by simp)) (.int .u32 lo2)).setCell (p := ⟨qc, 1, none⟩) (Or.inl (by simp)) (.int .u32 wd2)).setCell (p := ⟨qc, 2, none⟩) (Or.inl (by simp)) (.slice a2 out2.length k2)
          exact ⟨k + 1, lo2, wd2, .slice a2 out2.length k2, out2, by omega, by go_num, hnext, ((hC2.set 0 _).set 1 _).set 2 _, Rd.chg hR2 hC (show ∀ x ∈ [qc], _ by intro x hx; simp at hx; subst hx; exact hof), hof, (((hE.trans g2).setCell hsz _).setCell hsz _).setCell hsz _⟩
        case measure => simp [intOf]; omega
    · obtain rfl : k = l.length := by omega
      have hinv := stAt_inv l l.length
      have hlen := stAt_len l l.length (Nat.le_refl _)
      have hcode : Hid (codeOf l = finB lo wd out ∧ finE lo wd out = 0) := by
        have hc : chk wd out.length = 0 := by
          rw [hst] at hinv hlen
          unfold chk
          rw [if_neg (by have := hinv.2; omega), if_neg (by simp at hlen; omega)]
        refine ⟨?_, hc⟩
        unfold codeOf finB
        rw [hst, if_neg (by simp [hc])]
      rw [hst] at hinv
      obtain ⟨⟨i0, i1, i2, i3, i4, i5⟩, i6⟩ := hinv
      have d0 := hB.cell 0 _ rfl
      have d1 := hB.cell 1 _ rfl
      have d2 := hB.cell 2 _ rfl
      clear hlen
      go_wp2_with fail
      refine (Finish_any lo wd _ out i4 i2 i3 i1 _ hR).mono ?_
      rw [hcode.out.2, ← hcode.out.1]
      rintro e w5 ⟨a5, k5, rfl, R5, g5⟩
      go_wp2_with fail
      go_ret2
      exact ⟨a5, k5, rfl, R5, hE.trans g5⟩

end Go.Proofs.Ytnodnfmgklkjeaa
