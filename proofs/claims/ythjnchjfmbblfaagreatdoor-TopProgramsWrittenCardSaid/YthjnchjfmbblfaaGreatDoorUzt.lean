/- listing.declarations. -/
import Derived.Test.YthjnchjfmbblfaaGreatDoorUzs
namespace Go.Proofs.YthjnchjfmbblfaaGreatDoor
open Go.RowKit Go.ChangeMaps Go.MapKept
set_option linter.unusedVariables false
set_option linter.unusedSimpArgs false
attribute [local go_sem ↓] Go.wp_at_zero Go.wp_at_succ

/-- A line as bytes. -/
def lnL (x : Nat × List UInt8 × List (List UInt8)) : List UInt8 := Src.lineB x.1 x.2.1 x.2.2
def arrLn (k : Nat) (x : Bool × Int) : List UInt8 := Src.kindW x.1 ++ [32, 97] ++ Lib.decDigits k ++ [32] ++ Lib.decDigits x.2.toNat
theorem arrL_at (A : List (Bool × Int)) : ∀ (s k : Nat) (x : Bool × Int), A[k]? = some x → (Src.arrL s A)[k]? = some (0, Src.kindW x.1, [Src.aN (s + k), Lib.decDigits x.2.toNat]) := by
  induction A with
  | nil => intro s k x h; cases h
  | cons y A ih =>
    intro s k x h
    cases k with
    | zero =>
      simp at h
      subst h
      rfl
    | succ k =>
      have := ih (s + 1) k x (by simpa using h)
      rw [show s + 1 + k = s + (k + 1) by omega] at this
      exact this
theorem arrL_len (A : List (Bool × Int)) : ∀ s, (Src.arrL s A).length = A.length := by
  induction A with
  | nil => intro s; rfl
  | cons y A ih => intro s; simp [Src.arrL, ih]
theorem arr_line (k : Nat) (x : Bool × Int) : lnL (0, Src.kindW x.1, [Src.aN k, Lib.decDigits x.2.toNat]) = arrLn k x := by simp [lnL, Src.lineB, arrLn, Src.aN]
theorem arrs_succ {A : List (Bool × Int)} {k : Nat} {x : Bool × Int} (h : A[k]? = some x) : ((Src.arrL 0 A).take (k + 1)).map lnL = ((Src.arrL 0 A).take k).map lnL ++ [arrLn k x] := by
  have := arrL_at A 0 k x h
  rw [Nat.zero_add] at this
  rw [List.take_add_one, this, List.map_append]
  simp [arr_line]
def locLn (k : Nat) : List UInt8 := [108, 111, 99, 97, 108, 32, 108] ++ Lib.decDigits k
theorem locL_snoc : ∀ (n s : Nat), Src.locL s (n + 1) = Src.locL s n ++ [(0, Src.dLocal, [Src.lN (s + n)])] := by
  intro n
  induction n with
  | zero => intro s; rfl
  | succ n ih =>
    intro s
    show _ :: Src.locL (s + 1) (n + 1) = _ :: (Src.locL (s + 1) n ++ _)
    rw [ih (s + 1), show s + 1 + n = s + (n + 1) by omega]
theorem loc_succ (n : Nat) : (Src.locL 0 (n + 1)).map lnL = (Src.locL 0 n).map lnL ++ [locLn n] := by
  rw [locL_snoc, List.map_append, Nat.zero_add]
  simp [lnL, Src.lineB, locLn, Src.lN, Src.dLocal]
theorem add_run (a b c : List UInt8) (h : c = a ++ b) (hs : c.length ≤ 1000) (w : World) : (Op.stringOp .add (ba a) (ba b)).run Tryz.prog w = .ok (.string (ba c)) w := by
  subst h
  rw [List.length_append] at hs
  rw [run_string_add_sum w _ _ (by show a.toArray.size + b.toArray.size ≤ _; simp; omega), ba_app]
theorem kind_len (b : Bool) : (Src.kindW b).length = 5 := by cases b <;> rfl
set_option maxHeartbeats 16000000 in
set_option maxRecDepth 100000 in
theorem declarations_any (vA vC : Value) (A : List (Bool × Int)) (L : Nat) (C : List (Int × Int)) (hA8 : A.length ≤ 8) (hA : ∀ x ∈ A, 1 ≤ x.2 ∧ x.2 ≤ 65536) (hL : L ≤ 16) (w : World) (rA : Arr w vA A) (rC : Cod w vC C) (hT : TabH w) :
    Calls Tryz.prog 14 #[.agg #[vA, .int .i64 (L : Int), vC]] w fun e w' => ∃ v, e = .returned v ∧ w'.ownsRow w.heap.size 9 1 v ((Src.arrL 0 A ++ Src.locL 0 L).map lnL).length (((Src.arrL 0 A ++ Src.locL 0 L).map lnL).map sv) ∧ Ext w w' := by
  obtain ⟨aA, cA', rfl, -⟩ := Rd.shape (show Rd w 2 vA A.length (A.flatMap cA) from rA)
  obtain ⟨aC, cC, rfl, -⟩ := Rd.shape (show Rd w 2 vC C.length (C.flatMap cI) from rC)
  have hRA : Rd w 2 (.slice aA A.length cA') A.length (A.flatMap cA) := rA
  obtain ⟨nA, hnA⟩ : ∃ n, A.length = n := ⟨_, rfl⟩
  obtain ⟨nC, hnC⟩ : ∃ n, C.length = n := ⟨_, rfl⟩
  rw [hnA] at hRA hA8 ⊢
  rw [hnC]
  have X1 : Ext w (w.alloc (.cells #[.slice aA nA cA', .int .i64 (L : Int), .slice aC nC cC] 25)) := (Ext.refl w).alloc _
  have HB1 := Blk.new w [.slice aA nA cA', .int .i64 (L : Int), .slice aC nC cC] 25
  obtain ⟨w1, hw1⟩ : ∃ w1, w.alloc (.cells #[.slice aA nA cA', .int .i64 (L : Int), .slice aC nC cC] 25) = w1 := ⟨_, rfl⟩
  obtain ⟨q, hq⟩ : ∃ q, w.heap.size = q := ⟨_, rfl⟩
  rw [hq] at HB1
  rw [hw1] at HB1 X1
  have hs1 : w1.heap.size = q + 1 := by rw [← hw1, ← hq]; simp
  have c0 := HB1.cell 0 _ rfl
  have X1' := hidden X1
  have HB1' := hidden HB1
  have hit : Hid (∀ (n : Nat), n ≤ 9223372036854775807 → ∀ W, Ext w1 W → Calls Tryz.prog 33 #[.int .i64 (n : Int)] W fun e w' => e = .returned (.string (ba (Lib.decDigits n))) ∧ Ext W w') := hidden (fun n hn W hW => itoa_nat n hn W (hT.ext (X1.trans hW)))
  have hat : Hid (∀ j, j < nA → ∃ x : Bool × Int, A[j]? = some x ∧ 1 ≤ x.2 ∧ x.2 ≤ 65536) := hidden (fun j hj => ⟨A[j]'(by omega), List.getElem?_eq_getElem (by omega), hA _ (List.getElem_mem _)⟩)
  have hnil : Hid (w1.ownsRow (q + 1) 9 1 (.slice none 0 0) 0 []) := hidden (World.ownsRow_nil _ _ _ _)
  have hall : Hid ((Src.arrL 0 A).take nA = Src.arrL 0 A) := hidden (List.take_of_length_le (by rw [arrL_len, hnA]; exact Nat.le_refl _))
  obtain ⟨i0, ii, iz0, iz1, iz2⟩ := info_parts str_info
  replace hRA := hidden hRA
  clear rA rC hT X1 HB1 hnA hnC hA
  go_enter Tryz.func14, Tryz.ntmps14
  go_wp2_with fail
  go_loopw [3, 11] (fun u i wr => ∃ (k : Nat) (U : List (List UInt8)), k ≤ nA ∧ i = .int .i64 (k : Int) ∧ (∃ v, u = v ∧ Hid (U = ((Src.arrL 0 A).take k).map lnL) ∧ Hid (wr.ownsRow (q + 1) 9 1 v U.length (U.map sv)) ∧ Hid (Ext w1 wr) ∧ U.length ≤ k)) (fun _ i _ => nA - (intOf i).toNat)
  case atStart => exact ⟨0, [], by omega, rfl, _, rfl, rfl, hnil, Ext.refl _, Nat.le_refl _⟩
  case round =>
    obtain ⟨k, U, hk, rfl, v, hv, hU, hO, hX, hlu⟩ := hrel
    have hv' := hv.symm
    subst hv'
    obtain ⟨nu, hnu⟩ : ∃ n, U.length = n := ⟨_, rfl⟩
    have hO' := hO.out
    rw [hnu] at hO' hlu
    obtain ⟨au, cu, rfl, -⟩ := own_shape hO'
    by_cases hlt : k < nA
    · obtain ⟨x, hx, x0, x1⟩ := hat.out k hlt
      obtain ⟨b, off, rfl, -, -⟩ := hRA.out.cells (by omega)
      obtain ⟨y0, y1⟩ := rd2_at cA_len hRA.out k x hx _ _ rfl
      obtain ⟨wd, sz⟩ := x
      simp only at x0 x1 y0 y1
      obtain ⟨zn, hzn⟩ := Int.eq_ofNat_of_zero_le (show 0 ≤ sz by omega)
      have z0 := (X1'.out.trans hX.out).cell y0
      have z1 := (X1'.out.trans hX.out).cell y1
      have X4 : Ext wr (wr.alloc (.cells #[.bool wd, .int .i64 sz] 63)) := (Ext.refl wr).alloc _
      have HB4 := Blk.new wr [.bool wd, .int .i64 sz] 63
      obtain ⟨w4, hw4⟩ : ∃ w4, wr.alloc (.cells #[.bool wd, .int .i64 sz] 63) = w4 := ⟨_, rfl⟩
      obtain ⟨q5, hq5⟩ : ∃ q, wr.heap.size = q := ⟨_, rfl⟩
      rw [hq5] at HB4
      rw [hw4] at HB4 X4
      have d0 := HB4.cell 0 _ rfl
      have d1 := HB4.cell 1 _ rfl
      have hX4 := hidden (hX.out.trans X4)
      have hO4 := hidden (own_ext hO' X4)
      have hq5v : (Value.slice au nu cu).ownBlock ≠ some q5 := fun h => by have := (own_lt hO' h).2; omega
      obtain ⟨ln, hln⟩ : ∃ l, arrLn k (wd, sz) = l := ⟨_, rfl⟩
      have hU2 : Hid (U ++ [ln] = ((Src.arrL 0 A).take (k + 1)).map lnL) := hidden (by rw [arrs_succ hx, hU.out, hln])
      have hlu2 : (U ++ [ln]).length ≤ k + 1 := by rw [List.length_append, hnu]; simp; omega
      have g1 := Src.dd_len 9 k (by omega)
      have g2 := Src.dd_len 9 zn (by omega)
      have g3 := kind_len wd
      have a1 := add_run (Src.kindW wd) [32, 97] (Src.kindW wd ++ [32, 97]) rfl (by rw [List.length_append, g3]; decide)
      have a2 := add_run (Src.kindW wd ++ [32, 97]) (Lib.decDigits k) _ rfl (by simp only [List.length_append, g3, List.length_cons, List.length_nil]; omega)
      have a3 := add_run (Src.kindW wd ++ [32, 97] ++ Lib.decDigits k) [32] _ rfl (by simp only [List.length_append, g3, List.length_cons, List.length_nil]; omega)
      have a4 := add_run (Src.kindW wd ++ [32, 97] ++ Lib.decDigits k ++ [32]) (Lib.decDigits zn) ln (by rw [← hln, hzn]; simp [arrLn]) (by rw [← hln, hzn]; simp only [arrLn, List.length_append, g3, List.length_cons, List.length_nil, Int.toNat_natCast]; omega)
      have hi1 := hit.out k (by omega)
      have hi2 := hit.out zn (by omega)
      rw [show (ba [32, 97] : ByteArray) = ⟨#[32, 97]⟩ from rfl] at a1
      rw [show (ba [32] : ByteArray) = ⟨#[32]⟩ from rfl] at a3
      rw [show ((zn : Nat) : Int) = sz from hzn.symm] at hi2
      have hkw : (if wd = true then Value.string ⟨#[119, 111, 114, 100, 115]⟩ else Value.string ⟨#[98, 121, 116, 101, 115]⟩) = .string (ba (Src.kindW wd)) := by cases wd <;> rfl
      have hi1' : Hid (∀ W, Ext w4 W → Calls Tryz.prog 33 #[.int .i64 (k : Int)] W fun e w' => e = .returned (.string (ba (Lib.decDigits k))) ∧ Ext W w') := hidden (fun W hW => hi1 W (hX4.out.trans hW))
      have hi2' : Hid (∀ W, Ext w4 W → Calls Tryz.prog 33 #[.int .i64 sz] W fun e w' => e = .returned (.string (ba (Lib.decDigits zn))) ∧ Ext W w') := hidden (fun W hW => hi2 W (hX4.out.trans hW))
      have v2 : IntKind.i64.wrap ((k : Int) + 1) = (k : Int) + 1 := IntWalk.i64_in _ (by omega)
      have hlt2 : (k : Int) < (nA : Int) := by omega
      obtain ⟨KA, hKA⟩ : ∃ y, ba (Src.kindW wd ++ [32, 97]) = y := ⟨_, rfl⟩
      obtain ⟨KAI, hKAI⟩ : ∃ y, ba (Src.kindW wd ++ [32, 97] ++ Lib.decDigits k) = y := ⟨_, rfl⟩
      obtain ⟨KAIS, hKAIS⟩ : ∃ y, ba (Src.kindW wd ++ [32, 97] ++ Lib.decDigits k ++ [32]) = y := ⟨_, rfl⟩
      obtain ⟨LN, hLN⟩ : ∃ y, ba ln = y := ⟨_, rfl⟩
      obtain ⟨I, hI⟩ : ∃ y, ba (Lib.decDigits k) = y := ⟨_, rfl⟩
      obtain ⟨J, hJ⟩ : ∃ y, ba (Lib.decDigits zn) = y := ⟨_, rfl⟩
      rw [hI] at a2 hi1'
      rw [hJ] at a4 hi2'
      rw [hKA] at a1 a2
      rw [hKAI] at a2 a3
      rw [hKAIS] at a3 a4
      rw [hLN] at a4
      have hi1 := hi1'
      have hi2 := hi2'
      replace hnu := hidden hnu
      replace hLN := hidden hLN
      clear hi1' hi2' hx y0 y1 hzn HB4 X4 hln g1 g2 g3 hKA hKAI hKAIS hI hJ hO' hU hO hX
      cases wd with
      | false =>
        obtain ⟨K, hK⟩ : ∃ y, ba (Src.kindW false) = y := ⟨_, rfl⟩
        have hKv : (⟨#[98, 121, 116, 101, 115]⟩ : ByteArray) = K := hK
        rw [hK] at a1
        clear hkw hK
        go_wp2_with fail
        rename_i KK hKK
        rw [hKv]
        refine wp_region_D (S := fun w' : World => w'.cell? ⟨q5, 1, none⟩ = some (.int .i64 sz)) (D := []) (by kernel_rfl) d1 (fun HS => ?_)
        have hwd : Ext w4 w4.drew := (Ext.refl w4).drew
        refine takeD 0 [] (.slice au nu cu) rfl rfl (by kernel_rfl) (by kernel_rfl) (by kernel_rfl) (by kernel_rfl) (by decide) (by decide) (fun _ _ _ h => h) (by rfl) (fun w' hw' => by go_simp) HS ?_
        try simp only [List.setIfInBounds_toArray, List.set_cons_zero, List.set_cons_succ]
        refine takeD 1 [] (.string K) rfl rfl (by kernel_rfl) (by kernel_rfl) (by kernel_rfl) (by kernel_rfl) (by decide) (by decide) (fun _ _ _ h => h) (by rfl) (fun w' hw' => by go_simp) HS ?_
        try simp only [List.setIfInBounds_toArray, List.set_cons_zero, List.set_cons_succ]
        refine takeD 2 [] (.string KA) rfl rfl (by kernel_rfl) (by kernel_rfl) (by kernel_rfl) (by kernel_rfl) (by decide) (by decide) (fun _ _ _ h => h) (by rfl) (fun w' hw' => by go_simp) HS ?_
        try simp only [List.setIfInBounds_toArray, List.set_cons_zero, List.set_cons_succ]
        refine takeD 3 [] (.int .i64 (k : Int)) rfl rfl (by kernel_rfl) (by kernel_rfl) (by kernel_rfl) (by kernel_rfl) (by decide) (by decide) (fun _ _ _ h => h) (by rfl) (fun w' hw' => by go_simp) HS ?_
        try simp only [List.setIfInBounds_toArray, List.set_cons_zero, List.set_cons_succ]
        refine takeD 7 [] (.pointer (some ⟨q5, 1, none⟩)) rfl rfl (by kernel_rfl) (by kernel_rfl) (by kernel_rfl) (by kernel_rfl) (by decide) (by decide) (fun _ _ _ h => h) (by rfl) (fun w' hw' => by go_simp) HS ?_
        try simp only [List.setIfInBounds_toArray, List.set_cons_zero, List.set_cons_succ]
        refine takeD 8 [] (.int .i64 sz) rfl rfl (by kernel_rfl) (by kernel_rfl) (by kernel_rfl) (by kernel_rfl) (by decide) (by decide) (fun _ _ _ h => h) (by rfl) (fun w' hw' => by have p1 : w'.cell? ⟨q5, 1, none⟩ = some (.int .i64 sz) := hw'; go_simp) HS ?_
        try simp only [List.setIfInBounds_toArray, List.set_cons_zero, List.set_cons_succ]
        refine callVD 4 33 #[.int .i64 (k : Int)] rfl rfl (by kernel_rfl) (by rfl) (by go_simp) (hi1.out w4.drew hwd) ?_
        rintro e w5 ⟨rfl, X5⟩
        have HS5 : (fun w' : World => w'.cell? ⟨q5, 1, none⟩ = some (.int .i64 sz)) w5 := X5.cell HS
        refine Or.inl ⟨_, rfl, fun _ => HS5, ?_⟩
        try simp only [List.setIfInBounds_toArray, List.set_cons_zero, List.set_cons_succ]
        refine takeD 5 [] (.string KAI) rfl rfl (by kernel_rfl) (by kernel_rfl) (by kernel_rfl) (by kernel_rfl) (by decide) (by decide) (fun _ _ _ h => h) (by rfl) (fun w' hw' => by go_simp) HS5 ?_
        try simp only [List.setIfInBounds_toArray, List.set_cons_zero, List.set_cons_succ]
        refine takeD 6 [] (.string KAIS) rfl rfl (by kernel_rfl) (by kernel_rfl) (by kernel_rfl) (by kernel_rfl) (by decide) (by decide) (fun _ _ _ h => h) (by rfl) (fun w' hw' => by go_simp) HS5 ?_
        try simp only [List.setIfInBounds_toArray, List.set_cons_zero, List.set_cons_succ]
        refine callVD 9 33 #[.int .i64 sz] rfl rfl (by kernel_rfl) (by rfl) (by go_simp) (hi2.out w5 (hwd.trans X5)) ?_
        rintro e w6 ⟨rfl, X6⟩
        have HS6 : (fun w' : World => w'.cell? ⟨q5, 1, none⟩ = some (.int .i64 sz)) w6 := X6.cell HS5
        refine Or.inl ⟨_, rfl, fun _ => HS6, ?_⟩
        try simp only [List.setIfInBounds_toArray, List.set_cons_zero, List.set_cons_succ]
        refine takeD 10 [] (.string LN) rfl rfl (by kernel_rfl) (by kernel_rfl) (by kernel_rfl) (by kernel_rfl) (by decide) (by decide) (fun _ _ _ h => h) (by rfl) (fun w' hw' => by go_simp) HS6 ?_
        try simp only [List.setIfInBounds_toArray, List.set_cons_zero, List.set_cons_succ]
        have XA := (Ext.refl w6).alloc (.cells #[.string LN] 9)
        have HSA : (fun w' : World => w'.cell? ⟨q5, 1, none⟩ = some (.int .i64 sz)) (w6.alloc (.cells #[.string LN] 9)) := XA.cell HS6
        refine valueD 11 (.slice (some ⟨w6.heap.size, 0, none⟩) 1 1) rfl rfl (by kernel_rfl) (by rfl) (w' := w6.alloc (.cells #[.string LN] 9)) (by go_simp) (fun _ => HSA) ?_
        try simp only [List.setIfInBounds_toArray, List.set_cons_zero, List.set_cons_succ]
        have hRb : Rd (w6.alloc (.cells #[.string LN] 9)) 1 (.slice (some ⟨w6.heap.size, 0, none⟩) 1 1) 1 [.string LN] := rd_of_blkS (Blk.new w6 [.string LN] 9) rfl (by decide)
        have hE6 : Ext w4 w6 := (hwd.trans X5).trans X6
        refine appendD 12 rfl rfl rfl (by kernel_rfl) _ _ 31 (by rfl) (q + 1) 9 i0 (.string ⟨#[]⟩) 1 16 Tryz.underlying31 ii iz0 iz1 iz2 rfl (by decide) (.slice au nu cu) nu (U.map sv) (by rfl) (World.ownsRow.alloc (own_ext hO4.out hE6) _) (some ⟨w6.heap.size, 0, none⟩) 1 1 [.string LN] (by rfl) hRb (by simp [Value.oneCell']) (by unfold maxLen; omega) (by omega) (by have := XA.size; have := (hX4.out.trans hE6).size; rw [hs1] at this; omega) (by omega) ?_
        intro v8 w8 hown8 hgrow8 hb8
        have HS8 : (fun w' : World => w'.cell? ⟨q5, 1, none⟩ = some (.int .i64 sz)) w8 := ((grow_chg hgrow8)).cell (by simp; exact fun e => hq5v e) HS6
        refine ⟨fun _ => HS8, ?_⟩
        try simp only [List.setIfInBounds_toArray, List.set_cons_zero, List.set_cons_succ]
        refine takeD 13 [] (v8) rfl rfl (by kernel_rfl) (by kernel_rfl) (by kernel_rfl) (by kernel_rfl) (by decide) (by decide) (fun _ _ _ h => h) (by rfl) (fun w' hw' => by go_simp) HS8 ?_
        try simp only [List.setIfInBounds_toArray, List.set_cons_zero, List.set_cons_succ]
        refine wpAnyD_done (by kernel_rfl) ?_ _
        show KK _ _
        refine hKK _ _ ?_
        have hX8 : Hid (Ext w1 w8) := hidden (((Chg.of_ext [] (hX4.out.trans hE6)).trans (grow_chg hgrow8) (fun x hx => by simp at hx; exact Or.inr (by rw [hs1]; exact (own_lt hO4.out (by simp [hx])).1))).ext)
        have hO8 : Hid (w8.ownsRow (q + 1) 9 1 v8 (U ++ [ln]).length ((U ++ [ln]).map sv)) := hidden (by
          rw [List.length_append, List.map_append, hnu.out]
          have e : ([ln] : List (List UInt8)).map sv = [.string LN] := by rw [← hLN.out]; rfl
          rw [e]
          exact hown8)
        clear HS HS5 HS6 HS8 HSA hRb XA X5 X6 hwd hE6 hown8 hgrow8 hb8 hKK KK d0 d1
        go_wp2_with fail
        go_roundw
        case rel => exact ⟨k + 1, U ++ [ln], by omega, by go_num, v8, rfl, hU2, hO8, hX8, hlu2⟩
        case measure => simp [intOf]; omega
      | true =>
        obtain ⟨K, hK⟩ : ∃ y, ba (Src.kindW true) = y := ⟨_, rfl⟩
        have hKv : (⟨#[119, 111, 114, 100, 115]⟩ : ByteArray) = K := hK
        rw [hK] at a1
        clear hkw hK
        go_wp2_with fail
        rename_i KK hKK
        rw [hKv]
        refine wp_region_D (S := fun w' : World => w'.cell? ⟨q5, 1, none⟩ = some (.int .i64 sz)) (D := []) (by kernel_rfl) d1 (fun HS => ?_)
        have hwd : Ext w4 w4.drew := (Ext.refl w4).drew
        refine takeD 0 [] (.slice au nu cu) rfl rfl (by kernel_rfl) (by kernel_rfl) (by kernel_rfl) (by kernel_rfl) (by decide) (by decide) (fun _ _ _ h => h) (by rfl) (fun w' hw' => by go_simp) HS ?_
        try simp only [List.setIfInBounds_toArray, List.set_cons_zero, List.set_cons_succ]
        refine takeD 1 [] (.string K) rfl rfl (by kernel_rfl) (by kernel_rfl) (by kernel_rfl) (by kernel_rfl) (by decide) (by decide) (fun _ _ _ h => h) (by rfl) (fun w' hw' => by go_simp) HS ?_
        try simp only [List.setIfInBounds_toArray, List.set_cons_zero, List.set_cons_succ]
        refine takeD 2 [] (.string KA) rfl rfl (by kernel_rfl) (by kernel_rfl) (by kernel_rfl) (by kernel_rfl) (by decide) (by decide) (fun _ _ _ h => h) (by rfl) (fun w' hw' => by go_simp) HS ?_
        try simp only [List.setIfInBounds_toArray, List.set_cons_zero, List.set_cons_succ]
        refine takeD 3 [] (.int .i64 (k : Int)) rfl rfl (by kernel_rfl) (by kernel_rfl) (by kernel_rfl) (by kernel_rfl) (by decide) (by decide) (fun _ _ _ h => h) (by rfl) (fun w' hw' => by go_simp) HS ?_
        try simp only [List.setIfInBounds_toArray, List.set_cons_zero, List.set_cons_succ]
        refine takeD 7 [] (.pointer (some ⟨q5, 1, none⟩)) rfl rfl (by kernel_rfl) (by kernel_rfl) (by kernel_rfl) (by kernel_rfl) (by decide) (by decide) (fun _ _ _ h => h) (by rfl) (fun w' hw' => by go_simp) HS ?_
        try simp only [List.setIfInBounds_toArray, List.set_cons_zero, List.set_cons_succ]
        refine takeD 8 [] (.int .i64 sz) rfl rfl (by kernel_rfl) (by kernel_rfl) (by kernel_rfl) (by kernel_rfl) (by decide) (by decide) (fun _ _ _ h => h) (by rfl) (fun w' hw' => by have p1 : w'.cell? ⟨q5, 1, none⟩ = some (.int .i64 sz) := hw'; go_simp) HS ?_
        try simp only [List.setIfInBounds_toArray, List.set_cons_zero, List.set_cons_succ]
        refine callVD 4 33 #[.int .i64 (k : Int)] rfl rfl (by kernel_rfl) (by rfl) (by go_simp) (hi1.out w4.drew hwd) ?_
        rintro e w5 ⟨rfl, X5⟩
        have HS5 : (fun w' : World => w'.cell? ⟨q5, 1, none⟩ = some (.int .i64 sz)) w5 := X5.cell HS
        refine Or.inl ⟨_, rfl, fun _ => HS5, ?_⟩
        try simp only [List.setIfInBounds_toArray, List.set_cons_zero, List.set_cons_succ]
        refine takeD 5 [] (.string KAI) rfl rfl (by kernel_rfl) (by kernel_rfl) (by kernel_rfl) (by kernel_rfl) (by decide) (by decide) (fun _ _ _ h => h) (by rfl) (fun w' hw' => by go_simp) HS5 ?_
        try simp only [List.setIfInBounds_toArray, List.set_cons_zero, List.set_cons_succ]
        refine takeD 6 [] (.string KAIS) rfl rfl (by kernel_rfl) (by kernel_rfl) (by kernel_rfl) (by kernel_rfl) (by decide) (by decide) (fun _ _ _ h => h) (by rfl) (fun w' hw' => by go_simp) HS5 ?_
        try simp only [List.setIfInBounds_toArray, List.set_cons_zero, List.set_cons_succ]
        refine callVD 9 33 #[.int .i64 sz] rfl rfl (by kernel_rfl) (by rfl) (by go_simp) (hi2.out w5 (hwd.trans X5)) ?_
        rintro e w6 ⟨rfl, X6⟩
        have HS6 : (fun w' : World => w'.cell? ⟨q5, 1, none⟩ = some (.int .i64 sz)) w6 := X6.cell HS5
        refine Or.inl ⟨_, rfl, fun _ => HS6, ?_⟩
        try simp only [List.setIfInBounds_toArray, List.set_cons_zero, List.set_cons_succ]
        refine takeD 10 [] (.string LN) rfl rfl (by kernel_rfl) (by kernel_rfl) (by kernel_rfl) (by kernel_rfl) (by decide) (by decide) (fun _ _ _ h => h) (by rfl) (fun w' hw' => by go_simp) HS6 ?_
        try simp only [List.setIfInBounds_toArray, List.set_cons_zero, List.set_cons_succ]
        have XA := (Ext.refl w6).alloc (.cells #[.string LN] 9)
        have HSA : (fun w' : World => w'.cell? ⟨q5, 1, none⟩ = some (.int .i64 sz)) (w6.alloc (.cells #[.string LN] 9)) := XA.cell HS6
        refine valueD 11 (.slice (some ⟨w6.heap.size, 0, none⟩) 1 1) rfl rfl (by kernel_rfl) (by rfl) (w' := w6.alloc (.cells #[.string LN] 9)) (by go_simp) (fun _ => HSA) ?_
        try simp only [List.setIfInBounds_toArray, List.set_cons_zero, List.set_cons_succ]
        have hRb : Rd (w6.alloc (.cells #[.string LN] 9)) 1 (.slice (some ⟨w6.heap.size, 0, none⟩) 1 1) 1 [.string LN] := rd_of_blkS (Blk.new w6 [.string LN] 9) rfl (by decide)
        have hE6 : Ext w4 w6 := (hwd.trans X5).trans X6
        refine appendD 12 rfl rfl rfl (by kernel_rfl) _ _ 31 (by rfl) (q + 1) 9 i0 (.string ⟨#[]⟩) 1 16 Tryz.underlying31 ii iz0 iz1 iz2 rfl (by decide) (.slice au nu cu) nu (U.map sv) (by rfl) (World.ownsRow.alloc (own_ext hO4.out hE6) _) (some ⟨w6.heap.size, 0, none⟩) 1 1 [.string LN] (by rfl) hRb (by simp [Value.oneCell']) (by unfold maxLen; omega) (by omega) (by have := XA.size; have := (hX4.out.trans hE6).size; rw [hs1] at this; omega) (by omega) ?_
        intro v8 w8 hown8 hgrow8 hb8
        have HS8 : (fun w' : World => w'.cell? ⟨q5, 1, none⟩ = some (.int .i64 sz)) w8 := ((grow_chg hgrow8)).cell (by simp; exact fun e => hq5v e) HS6
        refine ⟨fun _ => HS8, ?_⟩
        try simp only [List.setIfInBounds_toArray, List.set_cons_zero, List.set_cons_succ]
        refine takeD 13 [] (v8) rfl rfl (by kernel_rfl) (by kernel_rfl) (by kernel_rfl) (by kernel_rfl) (by decide) (by decide) (fun _ _ _ h => h) (by rfl) (fun w' hw' => by go_simp) HS8 ?_
        try simp only [List.setIfInBounds_toArray, List.set_cons_zero, List.set_cons_succ]
        refine wpAnyD_done (by kernel_rfl) ?_ _
        show KK _ _
        refine hKK _ _ ?_
        have hX8 : Hid (Ext w1 w8) := hidden (((Chg.of_ext [] (hX4.out.trans hE6)).trans (grow_chg hgrow8) (fun x hx => by simp at hx; exact Or.inr (by rw [hs1]; exact (own_lt hO4.out (by simp [hx])).1))).ext)
        have hO8 : Hid (w8.ownsRow (q + 1) 9 1 v8 (U ++ [ln]).length ((U ++ [ln]).map sv)) := hidden (by
          rw [List.length_append, List.map_append, hnu.out]
          have e : ([ln] : List (List UInt8)).map sv = [.string LN] := by rw [← hLN.out]; rfl
          rw [e]
          exact hown8)
        clear HS HS5 HS6 HS8 HSA hRb XA X5 X6 hwd hE6 hown8 hgrow8 hb8 hKK KK d0 d1
        go_wp2_with fail
        go_roundw
        case rel => exact ⟨k + 1, U ++ [ln], by omega, by go_num, v8, rfl, hU2, hO8, hX8, hlu2⟩
        case measure => simp [intOf]; omega
    · obtain rfl : k = nA := by omega
      have hge : ¬ (k : Int) < (k : Int) := by omega
      have hU3 : Hid (U = (Src.arrL 0 A).map lnL) := hidden (by rw [hU.out, hall.out])
      have HBr := HB1'.out.ext hX.out
      have b1 := HBr.cell 1 _ rfl
      have hX3 := hX
      have hO3 : Hid (wr.ownsRow (q + 1) 9 1 (.slice au nu cu) nu (U.map sv)) := hidden hO'
      clear hO hX hO' hat hRA hU hall HBr c0
      go_wp2_with fail
      go_loopw [3, 34] (fun u i wy => ∃ (j : Nat) (V : List (List UInt8)), j ≤ L ∧ i = .int .i64 (j : Int) ∧ (∃ v, u = v ∧ Hid (V = U ++ (Src.locL 0 j).map lnL) ∧ Hid (wy.ownsRow (q + 1) 9 1 v V.length (V.map sv)) ∧ Hid (Ext w1 wy) ∧ V.length ≤ 8 + j)) (fun _ i _ => L - (intOf i).toNat)
      case atStart => exact ⟨0, U, by omega, rfl, _, rfl, by show U = U ++ []; rw [List.append_nil], by rw [hnu]; exact hO3, hX3, by rw [hnu]; omega⟩
      case round =>
        obtain ⟨j, V, hj, rfl, v, hv, hV, hO, hX, hlv⟩ := hrel
        have hv' := hv.symm
        subst hv'
        obtain ⟨nv, hnv⟩ : ∃ n, V.length = n := ⟨_, rfl⟩
        have hO' := hO.out
        rw [hnv] at hO' hlv
        obtain ⟨av, cv, rfl, -⟩ := own_shape hO'
        by_cases hlt2 : j < L
        · have hlt3 : (j : Int) < (L : Int) := by omega
          have v2 : IntKind.i64.wrap ((j : Int) + 1) = (j : Int) + 1 := IntWalk.i64_in _ (by omega)
          have g1 := Src.dd_len 9 j (by omega)
          have a1 := add_run [108, 111, 99, 97, 108, 32, 108] (Lib.decDigits j) (locLn j) rfl (by simp only [locLn, List.length_append, List.length_cons, List.length_nil]; omega)
          have hi1 := hit.out j (by omega) wr hX.out
          rw [show (ba [108, 111, 99, 97, 108, 32, 108] : ByteArray) = ⟨#[108, 111, 99, 97, 108, 32, 108]⟩ from rfl] at a1
          have hV2 : Hid (V ++ [locLn j] = U ++ (Src.locL 0 (j + 1)).map lnL) := hidden (by rw [loc_succ, hV.out, List.append_assoc])
          obtain ⟨ln, hln⟩ : ∃ l, locLn j = l := ⟨_, rfl⟩
          rw [hln] at a1 hV2
          obtain ⟨LN, hLN⟩ : ∃ y, ba ln = y := ⟨_, rfl⟩
          obtain ⟨I, hI⟩ : ∃ y, ba (Lib.decDigits j) = y := ⟨_, rfl⟩
          rw [hLN] at a1
          rw [hI] at a1 hi1
          replace hi1 := hidden hi1
          replace hLN := hidden hLN
          replace hnv := hidden hnv
          have hO5 := hidden hO'
          have hX5 := hidden hX.out
          clear hO' hO hX hV hln hI g1 b1
          go_wp2_with fail
          refine hi1.out.mono ?_
          rintro e w6 ⟨rfl, X6⟩
          have hX6 := hidden (hX5.out.trans X6)
          have hO6 := own_ext hO5.out X6
          clear X6 hi1
          go_wp2_with (at_builtin; refine wpList_append_own_at _ rfl _ _ 31 rfl (q + 1) 9 i0 (.string ⟨#[]⟩) 1 16 Tryz.underlying31 ii iz0 iz1 iz2 rfl (by decide) (.slice av nv cv) nv (V.map sv) rfl (World.ownsRow.alloc hO6 _) ⟨w6.heap.size, 0, none⟩ 1 1 [.string LN] rfl rfl (World.news_of_block (cs := #[.string LN]) (t := 9) (fr := (0, 0)) (heap_alloc_new w6 _)) (by simp [Value.oneCell']) (by unfold maxLen; omega) (by omega) (by have := hX6.out.size; rw [hs1] at this; simp; omega) ?_; intro v8 w8 hown8 hgrow8 _ hb8)
          have hX8 : Hid (Ext w1 w8) := hidden (((Chg.of_ext [] hX6.out).trans (grow_chg hgrow8) (fun x hx => by simp at hx; exact Or.inr (by rw [hs1]; exact (own_lt hO6 (by simp [hx])).1))).ext)
          have hO8 : Hid (w8.ownsRow (q + 1) 9 1 v8 (V ++ [ln]).length ((V ++ [ln]).map sv)) := hidden (by
            rw [List.length_append, List.map_append, hnv.out]
            have e : ([ln] : List (List UInt8)).map sv = [.string LN] := by rw [← hLN.out]; rfl
            rw [e]
            exact hown8)
          clear hown8 hgrow8 hb8 hO6
          go_wp2_with fail
          go_roundw
          case rel => exact ⟨j + 1, V ++ [ln], by omega, by go_num, v8, rfl, hV2, hO8, hX8, by rw [List.length_append, hnv.out]; simp; omega⟩
          case measure => simp [intOf]; omega
        · obtain rfl : j = L := by omega
          have hfin : Hid (V = (Src.arrL 0 A ++ Src.locL 0 j).map lnL) := hidden (by rw [hV.out, hU3.out, List.map_append])
          have hO7 : Hid (wr.ownsRow w.heap.size 9 1 (.slice av nv cv) V.length (V.map sv)) := hidden (own_mono (by rw [hnv]; exact hO') (by omega))
          have hX7 : Hid (Ext w wr) := hidden (X1'.out.trans hX.out)
          have hdl : decide ((j : Int) < (j : Int)) = false := by simp
          clear hO hX hO' hV b1
          go_wp2_with fail
          go_ret
          exact ⟨_, rfl, by rw [← hfin.out]; exact hO7.out, hX7.out⟩
end Go.Proofs.YthjnchjfmbblfaaGreatDoor
