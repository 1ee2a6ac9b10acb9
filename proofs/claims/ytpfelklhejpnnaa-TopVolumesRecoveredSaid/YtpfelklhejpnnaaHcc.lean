/- The law's caseLose. -/
import Derived.Test.YtpfelklhejpnnaaHcb
namespace Go.Proofs.Ytpfelklhejpnnaa
open Go.RowKit
set_option linter.unusedVariables false
set_option linter.unusedSimpArgs false
attribute [local go_sem ↓] Go.wp_at_zero Go.wp_at_succ

def LoseP (w : World) (L : List (List Int)) (K N : Nat) (e : Ending) (w' : World) : Prop :=
  ∃ v X, e = .returned (.tuple #[v, .int .i64 (notP L X : Int)]) ∧ RL w' v X ∧ (∀ l ∈ X, Bytes l ∧ l.length ≤ K) ∧ X.length ≤ N ∧ Ext w w'
def T0 : Nat → Prop := fun _ => True
theorem bits_or8 (a b : Nat) (a1 : a < 256) (b1 : b < 256) : bits .or .u8 (a : Int) (b : Int) = ((a ||| b : Nat) : Int) := by
  show IntKind.u8.wrap (((BitVec.ofInt 8 a) ||| (BitVec.ofInt 8 b)).toNat : Int) = _
  rw [BitVec.toNat_or, ofInt8g a (by omega) (by omega), ofInt8g b (by omega) (by omega)]
  have := Nat.or_lt_two_pow (n := 8) (x := a) (y := b) (by omega) (by omega)
  exact IntWalk.u8_in _ (by simp; omega)
theorem own_outer_ne {w : World} {B B' n : Nat} {v u : Value} {D : List Int} {xs : List Value} (h : Own8 w B v D) (h2 : w.ownsRow B' 22 1 u n xs) {x : Nat} (hx : v.ownBlock = some x) : u.ownBlock ≠ some x := own_ne_own h h2 (by decide) hx
set_option maxRecDepth 100000 in
set_option maxHeartbeats 4000000 in
theorem close_any (v1 v2 : Value) (L : List (List Int)) (n m K : Nat) (hLl : L.length = n) (hn : n ≤ 100) (hm : m ≤ 12) (hLb : ∀ l ∈ L, Bytes l) (hLK : ∀ l ∈ L, l.length ≤ K) (hK : K ≤ 100000) (cs : List Value) (hcs : U8s cs) (w : World) (h1 : RL w v1 L) (h2 : Rd w 4 v2 m cs) :
    Calls Try.prog 6 #[v1, v2] w (LoseP w L K (n + 12)) := by
  obtain ⟨a1, c1, rfl, -⟩ := h1.shape
  obtain ⟨a2, c2, rfl, -⟩ := Rd.shape h2
  rw [hLl] at h1 ⊢
  have hcl := fun v l (hl : l.length ≤ 900000) W h => bclone_any v l hl W h
  have hcp := fun v1 v2 X (hXb : ∀ l ∈ X, Bytes l) (hXn : X.length ≤ 1000) W h1 h2 => cpresent_any v1 v2 L X hLb hXb (by omega) hXn W h1 h2
  obtain ⟨q, hq⟩ : ∃ q : Nat → Nat, q = fun t => fB cs (t * 4) % n := ⟨_, rfl⟩
  have hcsl : cs.length = m * 4 := h2.1
  replace h1 := hidden h1
  replace h2 := hidden h2
  replace hcl := hidden hcl
  replace hcp := hidden hcp
  replace hLb := hidden hLb
  replace hLK := hidden hLK
  replace hq := hidden hq
  replace hcs := hidden hcs
  replace hLl := hidden hLl
  replace hcsl := hidden hcsl
  go_enter Try.func6, Try.ntmps6
  go_upto_region 3 with fail
  go_loopw [6, 7, 14] (fun u6 u7 i wr => ∃ (k : Nat) (OUT CL : List (List Int)), i = .int .i64 (k : Int) ∧ k ≤ n ∧ OUT.length = k ∧ CL.length ≤ cntL q m k ∧ Hid (∀ l ∈ OUT ++ CL, Bytes l ∧ l.length ≤ K) ∧ Hid (OLO wr w.heap.size u6 OUT T0) ∧ Hid (OLO wr w.heap.size u7 CL T0) ∧ Hid (∀ x, u6.ownBlock = some x → u7.ownBlock ≠ some x) ∧ Hid (Ext w wr)) (fun _ _ i _ => n - (intOf i).toNat)
  case atStart => exact ⟨0, [], [], rfl, by omega, rfl, Nat.zero_le _, hidden (by simp), hidden (OLO.nil _ _ _), hidden (OLO.nil _ _ _), hidden (fun x hx => by simp [Value.ownBlock] at hx), hidden (Ext.refl w)⟩
  case round =>
    obtain ⟨k, OUT, CL, rfl, hk, hOl, hCl, hB, hO6, hO7, hdj, hX⟩ := hrel
    have v1 : IntKind.i64.wrap ((k : Int) + 1) = (k : Int) + 1 := IntWalk.i64_in _ (by omega)
    obtain ⟨w3, hWW⟩ : ∃ X, X = wr := ⟨_, rfl⟩
    subst hWW
    by_cases hlt : k < n
    · have hlt2 : (k : Int) < (n : Int) := by omega
      obtain ⟨b', off', a3, c3, rfl, cR, hrd⟩ := (h1.out.ext hX.out).row k hlt
      have hmem := getD_memL (L := L) (k := k) (by have := hLl.out; omega)
      have hDb := hLb.out _ hmem
      have hDK := hLK.out _ hmem
      have hc1 := hcl.out _ _ (by omega) w3 hrd
      obtain ⟨D0, hD0⟩ : ∃ y, L.getD k [] = y := ⟨_, rfl⟩
      rw [hD0] at cR hrd hDb hDK hc1
      obtain ⟨l0, hl0⟩ : ∃ y, D0.length = y := ⟨_, rfl⟩
      rw [hl0] at cR hc1 hDK
      replace hc1 := hidden hc1
      replace hDb := hidden hDb
      replace hl0 := hidden hl0
      clear hrd hmem hD0
      go_upto_region 5 with fail
      go_wp2_with fail
      refine hc1.out.mono ?_
      rintro e w4 ⟨v4, rfl, hO4, hX4⟩
      obtain ⟨ua, uc, rfl⟩ := rd8_one hO4.rd
      rw [hl0.out] at hO4 ⊢
      have hsz3 : w.heap.size ≤ w3.heap.size := hX.out.size
      obtain ⟨g, hg1, hg2⟩ : ∃ g, w3.heap.size ≤ g ∧ ∀ x, (Value.slice ua l0 uc).ownBlock = some x → x = g := by
        cases hv : (Value.slice ua l0 uc).ownBlock with
        | none => exact ⟨w3.heap.size, Nat.le_refl _, fun x hx => by cases hx⟩
        | some y => exact ⟨y, (own_lt hO4 hv).1, fun x hx => by cases hx; rfl⟩
      have hO4' : Hid (Own8 w4 w.heap.size (.slice ua l0 uc) D0) := hidden (own_base hO4 hsz3)
      have hO74 : Hid (OLO w4 w.heap.size u7 CL (· ≠ g)) := hidden ((hO7.out.only (fun x hx _ => by omega)).ext hX4)
      have hO64 : Hid (OLO w4 w.heap.size u6 OUT (· ≠ g)) := hidden ((hO6.out.only (fun x hx _ => by omega)).ext hX4)
      have hX04 : Hid (Ext w w4) := hidden (hX.out.trans hX4)
      replace hg2 := hidden hg2
      clear hO4 hX4 hc1 hO6 hO7
      go_upto_region 7 with fail
      go_loopw [7, 9, 23] (fun u7 u9 i wr => ∃ (j : Nat) (D : List Int) (CL : List (List Int)), i = .int .i64 (j : Int) ∧ j ≤ m ∧ CL.length ≤ cntL q m k + cntE q j k ∧ D.length ≤ K ∧ Hid (Bytes D) ∧ Hid (Own8 wr w.heap.size u9 D) ∧ Hid (∀ x, u9.ownBlock = some x → x = g) ∧ Hid (∀ l ∈ OUT ++ CL, Bytes l ∧ l.length ≤ K) ∧ Hid (OLO wr w.heap.size u6 OUT (· ≠ g)) ∧ Hid (OLO wr w.heap.size u7 CL (· ≠ g)) ∧ Hid (∀ x, u6.ownBlock = some x → u7.ownBlock ≠ some x) ∧ Hid (Ext w wr)) (fun _ _ i _ => m - (intOf i).toNat)
      case atStart => exact ⟨0, D0, CL, rfl, by omega, hCl, by have := hl0.out; omega, hDb, hO4', hg2, hB, hO64, hO74, hdj, hX04⟩
      case round =>
        clear hO4' hO64 hO74 hX04 hDb hg2 hdj hB hCl
        obtain ⟨j, D, CL, rfl, hj, hCl, hDK2, hDb, hO9, hg9, hB, hO6, hO7, hdj, hX⟩ := hrel
        have v3 : IntKind.i64.wrap ((j : Int) + 1) = (j : Int) + 1 := IntWalk.i64_in _ (by omega)
        obtain ⟨w5, hWW⟩ : ∃ X, X = wr := ⟨_, rfl⟩
        subst hWW
        obtain ⟨ba, bc, rfl⟩ := rd8_one hO9.out.rd
        obtain ⟨dl, hdl⟩ : ∃ y, D.length = y := ⟨_, rfl⟩
        rw [hdl] at hO9 hDK2 hg9 ⊢
        by_cases hjm : j < m
        · have hjm2 : (j : Int) < (m : Int) := by omega
          obtain ⟨b2, off2, rfl, -, hcell⟩ := (Rd.ext h2.out hX.out).cells (by omega)
          have d0 := hcell (j * 4) (by have := hcsl.out; omega)
          have d1 := hcell (j * 4 + 1) (by have := hcsl.out; omega)
          have d2 := hcell (j * 4 + 2) (by have := hcsl.out; omega)
          have d3 := hcell (j * 4 + 3) (by have := hcsl.out; omega)
          have e0 := hcs.out.at (k := j * 4) (by have := hcsl.out; omega)
          have e1 := hcs.out.at (k := j * 4 + 1) (by have := hcsl.out; omega)
          have e2 := hcs.out.at (k := j * 4 + 2) (by have := hcsl.out; omega)
          have e3 := hcs.out.at (k := j * 4 + 3) (by have := hcsl.out; omega)
          rw [e0.1] at d0
          rw [← Nat.add_assoc] at d1 d2 d3
          rw [e1.1] at d1
          rw [e2.1] at d2
          rw [e3.1] at d3
          have hqj : q j = fB cs (j * 4) % n := by rw [hq.out]
          obtain ⟨x0, hx0⟩ : ∃ y, fB cs (j * 4) = y := ⟨_, rfl⟩
          obtain ⟨x1, hx1⟩ : ∃ y, fB cs (j * 4 + 1) = y := ⟨_, rfl⟩
          obtain ⟨x2, hx2⟩ : ∃ y, fB cs (j * 4 + 2) = y := ⟨_, rfl⟩
          obtain ⟨x3, hx3⟩ : ∃ y, fB cs (j * 4 + 3) = y := ⟨_, rfl⟩
          have y0 := e0.2
          have y1 := e1.2
          have y2 := e2.2
          have y3 := e3.2
          rw [hx0] at d0 hqj y0
          rw [hx1] at d1 y1
          rw [hx2] at d2 y2
          rw [hx3] at d3 y3
          clear hcell e0 e1 e2 e3 hx0 hx1 hx2 hx3
          go_upto_region 9 with fail
          obtain ⟨p11, hp11⟩ : ∃ y, w5.heap.size = y := ⟨_, rfl⟩
          have b11 : Blk (w5.alloc (.cells #[.int .u8 (x0 : Int), .int .u8 (x1 : Int), .int .u8 (x2 : Int), .int .u8 (x3 : Int)] 52)) p11 52 [.int .u8 (x0 : Int), .int .u8 (x1 : Int), .int .u8 (x2 : Int), .int .u8 (x3 : Int)] := blk_newAt' w5 _ _ p11 hp11
          have hX56 : Ext w5 (w5.alloc (.cells #[.int .u8 (x0 : Int), .int .u8 (x1 : Int), .int .u8 (x2 : Int), .int .u8 (x3 : Int)] 52)) := (Ext.refl w5).alloc _
          obtain ⟨w6, hw6⟩ : ∃ X, w5.alloc (.cells #[.int .u8 (x0 : Int), .int .u8 (x1 : Int), .int .u8 (x2 : Int), .int .u8 (x3 : Int)] 52) = X := ⟨_, rfl⟩
          rw [hw6] at b11 hX56 ⊢
          have hO96 : Hid (Own8 w6 w.heap.size (.slice ba dl bc) D) := hidden (own_ext hO9.out hX56)
          have hO66 : Hid (OLO w6 w.heap.size u6 OUT (· ≠ g)) := hidden (hO6.out.ext hX56)
          have hO76 : Hid (OLO w6 w.heap.size u7 CL (· ≠ g)) := hidden (hO7.out.ext hX56)
          have hX6 : Hid (Ext w w6) := hidden (hX.out.trans hX56)
          have hg56 : p11 ≤ w6.heap.size := by have := hX56.size; omega
          have hgx : ∀ x, (Value.slice ba dl bc).ownBlock = some x → g < p11 := fun x hx => by
            have y1 := hg9.out x hx
            have y2 := (own_lt hO9.out hx).2
            omega
          have t11_0 := b11.cell 0 _ rfl
          have t11_1 := b11.cell 1 _ rfl
          have t11_2 := b11.cell 2 _ rfl
          have t11_3 := b11.cell 3 _ rfl
          replace hgx := hidden hgx
          clear hw6 hX56 hO9 hO6 hO7 hX b11 d0 d1 d2 d3
          obtain ⟨xm, hxm⟩ : ∃ y, x0 % n = y := ⟨_, rfl⟩
          have hxn : xm < n := by rw [← hxm]; exact Nat.mod_lt _ (by omega)
          have r0 : IntKind.i64.wrap (x0 : Int) = (x0 : Int) := IntWalk.i64_in _ (by omega)
          have r1 : (x0 : Int).tmod (n : Int) = (xm : Int) := by rw [Int.tmod_eq_emod_of_nonneg (by omega), ← hxm]; rfl
          have r3 : IntKind.i64.wrap (xm : Int) = (xm : Int) := IntWalk.i64_in _ (by omega)
          have r4 : ¬ (n : Int) = 0 := by omega
          rw [hxm] at hqj
          replace hxm := hidden hxm
          by_cases hcond : xm = k ∧ dl ≠ 0
          · obtain ⟨hxk, hdl0⟩ := hcond
            have u1 : ((xm : Int) != (k : Int)) = false := by rw [hxk]; simp
            have u2 : ((dl : Int) == 0) = false := by
              simp only [beq_eq_false_iff_ne, ne_eq]
              exact fun h => hdl0 (by simpa using h)
            have hcs1 : cntE q (j + 1) k = cntE q j k + 1 := by rw [cntE_succ, if_pos (by omega)]
            obtain ⟨kd, hkd⟩ : ∃ y, x1 % 5 = y := ⟨_, rfl⟩
            have hk5 : kd < 5 := by omega
            have r5 : (x1 : Int).tmod 5 = (kd : Int) := by rw [Int.tmod_eq_emod_of_nonneg (by omega)]; omega
            have r6 : IntKind.u8.wrap (kd : Int) = (kd : Int) := IntWalk.u8_in _ (by omega)
            replace hxk := hidden hxk
            replace hcs1 := hidden hcs1
            replace hqj := hidden hqj
            replace hkd := hidden hkd
            obtain rfl | rfl | rfl | rfl | rfl : kd = 0 ∨ kd = 1 ∨ kd = 2 ∨ kd = 3 ∨ kd = 4 := by omega
            · have hnil : Hid (Own8 w6 w.heap.size (.slice none 0 0) []) := hidden (World.ownsRow_nil _ _ _ _)
              have hgn : Hid (∀ x, (Value.slice none 0 0).ownBlock = some x → x = g) := hidden (fun x hx => by simp [Value.ownBlock] at hx)
              have hbn : Hid (Bytes []) := hidden (fun x hx => by cases hx)
              go_wp2_with fail
              exact ⟨⟨j + 1, [], CL, by go_num, by omega, by have := hcs1.out; omega, Nat.zero_le _, hbn, hnil, hgn, hB, hO66, hO76, hdj, hX6⟩, by simp [intOf]; omega⟩
            · obtain ⟨g0, bc', hve, -⟩ := own_some (show w6.ownsRow w.heap.size 5 1 (.slice ba dl bc) dl (bs D) by have := hO96.out; unfold Own8 at this; rw [hdl] at this; exact this) (by omega)
              simp only [Value.slice.injEq, true_and] at hve
              obtain ⟨rfl, rfl⟩ := hve
              obtain ⟨t, ht⟩ : ∃ y, x2 % dl = y := ⟨_, rfl⟩
              have htd : t < dl := by rw [← ht]; exact Nat.mod_lt _ (by omega)
              have s0 : IntKind.i64.wrap (x2 : Int) = (x2 : Int) := IntWalk.i64_in _ (by omega)
              have s1 : (x2 : Int).tmod (dl : Int) = (t : Int) := by rw [Int.tmod_eq_emod_of_nonneg (by omega), ← ht]; rfl
              have s3 : IntKind.i64.wrap (t : Int) = (t : Int) := IntWalk.i64_in _ (by omega)
              have s4 : ¬ (dl : Int) = 0 := by omega
              have s5 : (t : Int) < (dl : Int) := by omega
              have cy := hO96.out.rd.at t (by omega)
              rw [Nat.zero_add] at cy
              have hyb := hDb.out.get t (by omega)
              obtain ⟨y, hy⟩ : ∃ y : Nat, D.getD t 0 = (y : Int) := ⟨(D.getD t 0).toNat, by omega⟩
              rw [hy] at cy hyb
              have s6 : bits .or .u8 (x3 : Int) (1 : Int) = ((x3 ||| 1 : Nat) : Int) := bits_or8 x3 1 y3 (by omega)
              have ho8 : (x3 ||| 1) < 256 := Nat.or_lt_two_pow (n := 8) y3 (by omega)
              obtain ⟨o, ho⟩ : ∃ y, x3 ||| 1 = y := ⟨_, rfl⟩
              rw [ho] at s6 ho8
              have s7 : bits .xor .u8 (y : Int) (o : Int) = ((y ^^^ o : Nat) : Int) := bits_xor8 y o (by omega) ho8
              have hz8 : (y ^^^ o) < 256 := Gf.xor_lt (by omega) ho8
              obtain ⟨z, hz⟩ : ∃ x, y ^^^ o = x := ⟨_, rfl⟩
              rw [hz] at s7 hz8
              have fy := hO96.out.frozen t
              have hgg : Hid (g0 = g) := hidden (hg9.out g0 rfl)
              obtain ⟨wd, hwd⟩ : ∃ X, w6.drew = X := ⟨_, rfl⟩
              have hXd : Ext w6 wd := by rw [← hwd]; exact (Ext.refl w6).drew
              have fyd := hXd.frozen cy fy
              have cyd := hXd.cell cy
              have hC7 : Chg [g0] w6 (wd.setCell ⟨g0, t, none⟩ (.int .u8 (z : Int))) := (Chg.of_ext [g0] hXd).setCell (Or.inl (by simp)) _
              have hfin : Hid (Own8 (wd.setCell ⟨g0, t, none⟩ (.int .u8 (z : Int))) w.heap.size (.slice (some ⟨g0, 0, none⟩) dl bc) (D.set t (z : Int)) ∧ OLO (wd.setCell ⟨g0, t, none⟩ (.int .u8 (z : Int))) w.heap.size u6 OUT (· ≠ g) ∧ OLO (wd.setCell ⟨g0, t, none⟩ (.int .u8 (z : Int))) w.heap.size u7 CL (· ≠ g) ∧ Ext w (wd.setCell ⟨g0, t, none⟩ (.int .u8 (z : Int)))) := hidden (by
                refine ⟨Own8.set (own_ext hO96.out hXd) t _, hO66.out.chg hC7 (fun x hx => ?_) (fun x hx y' hy' => ?_), hO76.out.chg hC7 (fun x hx => ?_) (fun x hx y' hy' => ?_), Chg.ext ((Chg.of_ext [] hX6.out).trans hC7 (fun x hx => Or.inr ?_))⟩
                · simp at hx; subst hx
                  obtain ⟨vs, hv⟩ := hO66.out.outer
                  exact own_outer_ne hO96.out hv rfl
                · simp at hx; rw [hx, hgg.out]; exact hy'
                · simp at hx; subst hx
                  obtain ⟨vs, hv⟩ := hO76.out.outer
                  exact own_outer_ne hO96.out hv rfl
                · simp at hx; rw [hx, hgg.out]; exact hy'
                · simp at hx; subst hx
                  exact (own_lt hO96.out rfl).1)
              have hdb2 : Hid (Bytes (D.set t (z : Int))) := hidden (fun x hx => by
                rcases List.mem_or_eq_of_mem_set hx with h | h
                · exact hDb.out x h
                · omega)
              replace hy := hidden hy
              replace ht := hidden ht
              replace ho := hidden ho
              replace hz := hidden hz
              clear hC7 hXd
              go_upto_region 14 with fail
              refine wp_region_D (S := fun w' : World => w'.cell? ⟨p11, 2, none⟩ = some (.int .u8 (x2 : Int)) ∧ w'.cell? ⟨p11, 3, none⟩ = some (.int .u8 (x3 : Int)) ∧ w'.cell? ⟨g0, t, none⟩ = some (.int .u8 (y : Int))) (D := [14]) (by kernel_rfl) ⟨t11_2, t11_3, cy⟩ (fun HS => ?_)
              rw [hwd] at HS ⊢
              refine takeD 0 [7, 8, 12, 13, 14] (.slice (some ⟨g0, 0, none⟩) dl bc) rfl rfl (by kernel_rfl) (by kernel_rfl) (by kernel_rfl) (by kernel_rfl) (by decide) (by decide) (fun _ _ _ h => h) (by rfl) (fun w' hw' => by go_simp) HS ?_
              try simp only [List.setIfInBounds_toArray, List.set_cons_zero, List.set_cons_succ]
              refine takeD 1 [2, 3, 6, 7, 8, 12, 13, 14] (.pointer (some ⟨p11, 2, none⟩)) rfl rfl (by kernel_rfl) (by kernel_rfl) (by kernel_rfl) (by kernel_rfl) (by decide) (by decide) (fun _ _ _ h => h) (by rfl) (fun w' hw' => by go_simp) HS ?_
              try simp only [List.setIfInBounds_toArray, List.set_cons_zero, List.set_cons_succ]
              refine takeD 2 [3, 6, 7, 8, 12, 13, 14] (.int .u8 (x2 : Int)) rfl rfl (by kernel_rfl) (by kernel_rfl) (by kernel_rfl) (by kernel_rfl) (by decide) (by decide) (fun _ _ _ h => h) (by rfl) (fun w' hw' => by obtain ⟨p1, p2, p3⟩ := hw'; go_simp) HS ?_
              try simp only [List.setIfInBounds_toArray, List.set_cons_zero, List.set_cons_succ]
              refine takeD 3 [6, 7, 8, 12, 13, 14] (.int .i64 (x2 : Int)) rfl rfl (by kernel_rfl) (by kernel_rfl) (by kernel_rfl) (by kernel_rfl) (by decide) (by decide) (fun _ _ _ h => h) (by rfl) (fun w' hw' => by go_simp) HS ?_
              try simp only [List.setIfInBounds_toArray, List.set_cons_zero, List.set_cons_succ]
              refine takeD 4 [5, 6, 7, 8, 12, 13, 14] (.slice (some ⟨g0, 0, none⟩) dl bc) rfl rfl (by kernel_rfl) (by kernel_rfl) (by kernel_rfl) (by kernel_rfl) (by decide) (by decide) (fun _ _ _ h => h) (by rfl) (fun w' hw' => by go_simp) HS ?_
              try simp only [List.setIfInBounds_toArray, List.set_cons_zero, List.set_cons_succ]
              refine takeD 5 [6, 7, 8, 12, 13, 14] (.int .i64 (dl : Int)) rfl rfl (by kernel_rfl) (by kernel_rfl) (by kernel_rfl) (by kernel_rfl) (by decide) (by decide) (fun _ _ _ h => h) (by rfl) (fun w' hw' => by go_simp) HS ?_
              try simp only [List.setIfInBounds_toArray, List.set_cons_zero, List.set_cons_succ]
              refine takeD 6 [7, 8, 12, 13, 14] (.int .i64 (t : Int)) rfl rfl (by kernel_rfl) (by kernel_rfl) (by kernel_rfl) (by kernel_rfl) (by decide) (by decide) (fun _ _ _ h => h) (by rfl) (fun w' hw' => by go_simp) HS ?_
              try simp only [List.setIfInBounds_toArray, List.set_cons_zero, List.set_cons_succ]
              refine takeD 7 [8, 12, 13, 14] (.pointer (some ⟨g0, t, none⟩)) rfl rfl (by kernel_rfl) (by kernel_rfl) (by kernel_rfl) (by kernel_rfl) (by decide) (by decide) (fun _ _ _ h => h) (by rfl) (fun w' hw' => by go_simp) HS ?_
              try simp only [List.setIfInBounds_toArray, List.set_cons_zero, List.set_cons_succ]
              refine takeD 8 [12, 13, 14] (.int .u8 (y : Int)) rfl rfl (by kernel_rfl) (by kernel_rfl) (by kernel_rfl) (by kernel_rfl) (by decide) (by decide) (fun _ _ _ h => h) (by rfl) (fun w' hw' => by obtain ⟨p1, p2, p3⟩ := hw'; go_simp) HS ?_
              try simp only [List.setIfInBounds_toArray, List.set_cons_zero, List.set_cons_succ]
              refine takeD 9 [10, 11, 12, 13, 14] (.pointer (some ⟨p11, 3, none⟩)) rfl rfl (by kernel_rfl) (by kernel_rfl) (by kernel_rfl) (by kernel_rfl) (by decide) (by decide) (fun _ _ _ h => h) (by rfl) (fun w' hw' => by go_simp) HS ?_
              try simp only [List.setIfInBounds_toArray, List.set_cons_zero, List.set_cons_succ]
              refine takeD 10 [11, 12, 13, 14] (.int .u8 (x3 : Int)) rfl rfl (by kernel_rfl) (by kernel_rfl) (by kernel_rfl) (by kernel_rfl) (by decide) (by decide) (fun _ _ _ h => h) (by rfl) (fun w' hw' => by obtain ⟨p1, p2, p3⟩ := hw'; go_simp) HS ?_
              try simp only [List.setIfInBounds_toArray, List.set_cons_zero, List.set_cons_succ]
              refine takeD 11 [12, 13, 14] (.int .u8 (o : Int)) rfl rfl (by kernel_rfl) (by kernel_rfl) (by kernel_rfl) (by kernel_rfl) (by decide) (by decide) (fun _ _ _ h => h) (by rfl) (fun w' hw' => by go_simp) HS ?_
              try simp only [List.setIfInBounds_toArray, List.set_cons_zero, List.set_cons_succ]
              refine takeD 12 [13, 14] (.int .u8 (z : Int)) rfl rfl (by kernel_rfl) (by kernel_rfl) (by kernel_rfl) (by kernel_rfl) (by decide) (by decide) (fun _ _ _ h => h) (by rfl) (fun w' hw' => by go_simp) HS ?_
              try simp only [List.setIfInBounds_toArray, List.set_cons_zero, List.set_cons_succ]
              refine takeD 13 [14] (.pointer (some ⟨g0, t, none⟩)) rfl rfl (by kernel_rfl) (by kernel_rfl) (by kernel_rfl) (by kernel_rfl) (by decide) (by decide) (fun _ _ _ h => h) (by rfl) (fun w' hw' => by go_simp) HS ?_
              try simp only [List.setIfInBounds_toArray, List.set_cons_zero, List.set_cons_succ]
              refine storeD 14 rfl rfl (by kernel_rfl) (by rfl) (w' := wd.setCell ⟨g0, t, none⟩ (.int .u8 (z : Int))) (by go_simp) (fun h => absurd (by simp) h) ?_
              refine wpAnyD_done (by kernel_rfl) ?_ _
              show _
              go_wp2_with fail
              exact ⟨⟨j + 1, D.set t (z : Int), CL, by go_num, by omega, by have := hcs1.out; omega, by rw [List.length_set]; omega, hdb2, hidden hfin.out.1, hg9, hB, hidden hfin.out.2.1, hidden hfin.out.2.2.1, hdj, hidden hfin.out.2.2.2⟩, by simp [intOf]; omega⟩
            · obtain ⟨t, ht⟩ : ∃ y, x2 % dl = y := ⟨_, rfl⟩
              have htd : t < dl := by rw [← ht]; exact Nat.mod_lt _ (by omega)
              have s0 : IntKind.i64.wrap (x2 : Int) = (x2 : Int) := IntWalk.i64_in _ (by omega)
              have s1 : (x2 : Int).tmod (dl : Int) = (t : Int) := by rw [Int.tmod_eq_emod_of_nonneg (by omega), ← ht]; rfl
              have s3 : IntKind.i64.wrap (t : Int) = (t : Int) := IntWalk.i64_in _ (by omega)
              have s4 : ¬ (dl : Int) = 0 := by omega
              obtain ⟨hcut, hOc⟩ := own_cut hO96.out hdl t (by omega)
              have hg2' : Hid (∀ x, (Value.slice ba t bc).ownBlock = some x → x = g) := hidden (fun x hx => by
                cases ba with
                | none => simp [Value.ownBlock] at hx
                | some ad => exact hg9.out x hx)
              have hdb2 : Hid (Bytes (D.take t)) := hidden (fun x hx => hDb.out x (List.mem_of_mem_take hx))
              have hOc' : Hid (Own8 w6 w.heap.size (.slice ba t bc) (D.take t)) := hidden hOc
              replace ht := hidden ht
              clear hOc
              go_wp2_with fail
              exact ⟨⟨j + 1, D.take t, CL, by go_num, by omega, by have := hcs1.out; omega, by rw [List.length_take]; omega, hdb2, hOc', hg2', hB, hO66, hO76, hdj, hX6⟩, by simp [intOf]; omega⟩
            · have hcl1 := hcl.out (.slice ba dl bc) D (by omega) w6 hO96.out.rd
              replace hcl1 := hidden hcl1
              go_wp2_with fail
              refine hcl1.out.mono ?_
              rintro e w8 ⟨v8, rfl, hO8, hX8⟩
              obtain ⟨pa, pc, rfl⟩ := rd8_one hO8.rd
              rw [hdl] at hO8 ⊢
              have hA8 : ∀ x, (Value.slice pa dl pc).ownBlock = some x → x ≠ g := fun x hx => by
                have y1 := (own_lt hO8 hx).1
                have y2 : g < p11 := by
                  have hso : ∃ y, (Value.slice ba dl bc).ownBlock = some y := by
                    obtain ⟨g0, bc', hve, -⟩ := own_some (show w6.ownsRow w.heap.size 5 1 (.slice ba dl bc) dl (bs D) by have := hO96.out; unfold Own8 at this; rw [hdl] at this; exact this) (by omega)
                    exact ⟨g0, by rw [hve]; rfl⟩
                  obtain ⟨y, hy⟩ := hso
                  exact hgx.out y hy
                omega
              have hO78 := hO76.out.ext hX8
              have hX08 : Ext w w8 := hX6.out.trans hX8
              have hO8' : Own8 w8 w.heap.size (.slice pa dl pc) D := own_base hO8 hX6.out.size
              have hO98 := own_ext hO96.out hX8
              have hO68 := hO66.out.ext hX8
              have hclen : CL.length ≤ 1000 := by have := cntL_le q m k; have := hcs1.out; have : cntE q j k ≤ j := by unfold cntE; have := List.length_filter_le (fun t => decide (q t = k)) (List.range j); simpa using this
                                                  omega
              replace hO78 := hidden hO78
              replace hO8' := hidden hO8'
              replace hO98 := hidden hO98
              replace hO68 := hidden hO68
              replace hX08 := hidden hX08
              replace hA8 := hidden hA8
              clear hO8 hX8 hcl1
              go_wp2_with (at_builtin; refine wpList_append_olo rfl _ _ rfl w.heap.size w8 u7 CL (· ≠ g) rfl hO78.out hX08.out.size pa dl pc D hO8'.out hA8.out rfl (by omega) ?_; intro v9 w9 hown hgrow hat)
              have hXa : Ext w8 (w8.alloc (.cells #[.slice pa dl pc] 22)) := (Ext.refl w8).alloc _
              obtain ⟨vs7, hv7⟩ := (hO78.out.ext hXa).outer
              have hO99 : Hid (Own8 w9 w.heap.size (.slice ba dl bc) D) := hidden (own_grow_other (own_ext hO98.out hXa) hgrow (fun x hx e => own_outer_ne (own_ext hO98.out hXa) hv7 e hx))
              have hO69 : Hid (OLO w9 w.heap.size u6 OUT (· ≠ g)) := hidden ((hO68.out.ext hXa).grown hv7 hgrow (fun x hx e => hdj.out x e hx))
              have hX9 : Hid (Ext w w9) := hidden (Chg.ext ((Chg.of_ext [] (hX08.out.trans hXa)).grown hgrow (fun y hy => Or.inr (own_lt hv7 hy).1)))
              have hdj9 : Hid (∀ x, u6.ownBlock = some x → v9.ownBlock ≠ some x) := hidden (fun x hx e => by
                rcases hat with h | h
                · rw [h] at e; exact hdj.out x hx e
                · rw [h] at e
                  obtain ⟨vs6, hv6⟩ := (hO68.out.ext hXa).outer
                  have y1 := (own_lt hv6 hx).2
                  have : (w8.alloc (.cells #[.slice pa dl pc] 22)).heap.size = x := by simpa using e
                  omega)
              have hB9 : Hid (∀ l ∈ OUT ++ (CL ++ [D]), Bytes l ∧ l.length ≤ K) := hidden (fun l hl => by
                rw [← List.append_assoc] at hl
                rcases List.mem_append.1 hl with h | h
                · exact hB.out l h
                · simp at h; subst h; exact ⟨hDb.out, by omega⟩)
              have hown' : Hid (OLO w9 w.heap.size v9 (CL ++ [D]) (· ≠ g)) := hidden hown
              clear hown hgrow hat hv7 hXa
              exact ⟨⟨j + 1, D, CL ++ [D], by go_num, by omega, by have := hcs1.out; simp; omega, by omega, hDb, hO99, hg9, hB9, hO69, hown', hdj9, hX9⟩, by simp [intOf]; omega⟩
            · go_wp2_with fail
              exact ⟨⟨j + 1, D, CL, by go_num, by omega, by have := hcs1.out; omega, by omega, hDb, hO96, hg9, hB, hO66, hO76, hdj, hX6⟩, by simp [intOf]; omega⟩
          · have hcond2 : Hid (¬ (xm = k ∧ dl ≠ 0)) := hidden hcond
            by_cases hxk : xm = k
            · have hd0 : dl = 0 := by
                by_cases h : dl = 0
                · exact h
                · exact absurd ⟨hxk, h⟩ hcond
              have u1 : ((xm : Int) != (k : Int)) = false := by rw [hxk]; simp
              replace hxk := hidden hxk
              replace hqj := hidden hqj
              clear hcond
              subst hd0
              go_wp2_with fail
              exact ⟨⟨j + 1, D, CL, by go_num, by omega, by rw [cntE_succ]; omega, by omega, hDb, hO96, hg9, hB, hO66, hO76, hdj, hX6⟩, by simp [intOf]; omega⟩
            · have u1 : ((xm : Int) != (k : Int)) = true := by
                simp only [bne_iff_ne, ne_eq]
                exact fun h => hxk (by omega)
              replace hxk := hidden hxk
              replace hqj := hidden hqj
              clear hcond
              go_wp2_with fail
              exact ⟨⟨j + 1, D, CL, by go_num, by omega, by rw [cntE_succ]; omega, by omega, hDb, hO96, hg9, hB, hO66, hO76, hdj, hX6⟩, by simp [intOf]; omega⟩
        · have hje : j = m := by omega
          have hk9 : decide ((j : Int) < (m : Int)) = false := decide_eq_false (by omega)
          have hcs1 := cntL_succ q m k
          rw [hje] at hCl
          have hCl2 : CL.length ≤ cntL q m (k + 1) := by omega
          have hO6T : Hid (OLO w5 w.heap.size u6 OUT T0) := hidden (hO6.out.only (fun _ _ _ => trivial))
          have hO7T : Hid (OLO w5 w.heap.size u7 CL T0) := hidden (hO7.out.only (fun _ _ _ => trivial))
          have hDK3 : Hid (D.length ≤ K) := hidden (by omega)
          replace hdl := hidden hdl
          clear hje hcs1 hCl hO6 hO7
          go_wp2_with (at_builtin; refine wpList_append_olo rfl _ _ rfl w.heap.size w5 u6 OUT T0 rfl hO6T.out hX.out.size ba dl bc D hO9.out (fun _ _ => trivial) rfl (by omega) ?_; intro v9 w9 hown hgrow hat)
          have hXa : Ext w5 (w5.alloc (.cells #[.slice ba dl bc] 22)) := (Ext.refl w5).alloc _
          obtain ⟨vs6, hv6⟩ := (hO6T.out.ext hXa).outer
          have hO79 : Hid (OLO w9 w.heap.size u7 CL T0) := hidden ((hO7T.out.ext hXa).grown hv6 hgrow (fun x hx e => hdj.out x hx e))
          have hX9 : Hid (Ext w w9) := hidden (Chg.ext ((Chg.of_ext [] (hX.out.trans hXa)).grown hgrow (fun y hy => Or.inr (own_lt hv6 hy).1)))
          have hdj9 : Hid (∀ x, v9.ownBlock = some x → u7.ownBlock ≠ some x) := hidden (fun x hx e => by
            rcases hat with h | h
            · rw [h] at hx; exact hdj.out x hx e
            · rw [h] at hx
              obtain ⟨vs7, hv7⟩ := (hO7T.out.ext hXa).outer
              have y1 := (own_lt hv7 e).2
              have : (w5.alloc (.cells #[.slice ba dl bc] 22)).heap.size = x := by simpa using hx
              omega)
          have hB9 : Hid (∀ l ∈ (OUT ++ [D]) ++ CL, Bytes l ∧ l.length ≤ K) := hidden (fun l hl => by
            rcases List.mem_append.1 hl with h | h
            · rcases List.mem_append.1 h with h | h
              · exact hB.out l (List.mem_append.2 (Or.inl h))
              · simp at h; subst h; exact ⟨hDb.out, hDK3.out⟩
            · exact hB.out l (List.mem_append.2 (Or.inr h)))
          have hown' : Hid (OLO w9 w.heap.size v9 (OUT ++ [D]) T0) := hidden hown
          clear hown hgrow hat hv6 hXa
          go_roundw
          case rel => exact ⟨k + 1, OUT ++ [D], CL, by go_num, by omega, by simp; omega, hCl2, hB9, hown', hO79, hdj9, hX9⟩
          case measure => simp [intOf]; omega
    · have hke : k = n := by omega
      have hk8 : decide ((k : Int) < (n : Int)) = false := decide_eq_false (by omega)
      have hcle := cntL_le q m k
      have hlen : OUT.length + CL.length ≤ 1000000 := by omega
      have hnn : w.heap.size ≤ w3.heap.size := hX.out.size
      have hXl : (OUT ++ CL).length ≤ n + 12 := by rw [List.length_append]; omega
      obtain ⟨Y, hY⟩ : ∃ y, OUT ++ CL = y := ⟨_, rfl⟩
      have hYl : Y.length ≤ n + 12 := by rw [← hY]; exact hXl
      have hB2 : Hid (∀ l ∈ Y, Bytes l ∧ l.length ≤ K) := hidden (by rw [← hY]; exact hB.out)
      replace hY := hidden hY
      clear hXl hcle hB
      go_wp2_with (at_builtin; refine wpList_append_olos rfl _ _ rfl w.heap.size u6 u7 OUT CL T0 rfl hO6.out hnn rfl hO7.out hlen ?_; intro v9 w9 hown hgrow hge)
      rw [hY.out] at hown
      have hX9 : Ext w w9 := Chg.ext ((Chg.of_ext [] hX.out).grown hgrow (fun y hy => Or.inr (hge y hy)))
      have hr9 := hown.rl
      have hc9 := hcp.out (.slice a1 n c1) v9 Y (fun l hl => (hB2.out l hl).1) (by omega) w9 (h1.out.ext hX9) hr9
      replace hc9 := hidden hc9
      replace hr9 := hidden hr9
      replace hX9 := hidden hX9
      clear hown hgrow hge hO6 hO7 hdj hX
      go_wp2_with fail
      refine hc9.out.mono ?_
      rintro e w10 ⟨rfl, hX10⟩
      have hfin : Hid (LoseP w L K (n + 12) (.returned (.tuple #[v9, .int .i64 (notP L Y : Int)])) w10) := hidden ⟨v9, Y, rfl, hr9.out.ext hX10, hB2.out, hYl, hX9.out.trans hX10⟩
      clear hX10 hc9 hr9
      go_wp2_with fail
      refine bodyPost_ret (results_tmp2 rfl _ _ _) rfl ?_
      exact hfin.out
end Go.Proofs.Ytpfelklhejpnnaa
