/- Small general laws on worlds: what a call that only makes new blocks leaves as it was. -/
import Derived.WalkKit
import Derived.WalkSpells
import Derived.WalkLawsBesides
import Derived.IntWalk
import Derived.Handy
import Derived.MapKept
import Derived.OwnWalk
import Derived.Maps.OwnOps
namespace Go.Proofs.Ytpfelklhejpnnaa
open Go.RowKit

theorem hidden {p : Prop} (h : p) : Hid p := h
theorem ret_int {k : IntKind} {a b : Int} (h : a = b) : Ending.returned (.int k a) = .returned (.int k b) := by rw [h]
theorem ret_bool {a b : Bool} (h : a = b) : Ending.returned (.bool a) = .returned (.bool b) := by rw [h]

/-- The world has at most new blocks. -/
def Ext (w w' : World) : Prop := Below w.heap.size w w'
theorem Ext.size {w w' : World} (h : Ext w w') : w.heap.size ≤ w'.heap.size := Below.size h
theorem Ext.refl (w : World) : Ext w w := Below.refl _ _
theorem Ext.of_eq {w w' : World} (h : w = w') : Ext w w' := h ▸ Ext.refl w
theorem Ext.trans {a b c : World} (h : Ext a b) (k : Ext b c) : Ext a c := Below.trans h (Below.mono k (Below.size h))
theorem Ext.drew {a b : World} (h : Ext a b) : Ext a b.drew := Below.drew h
theorem Ext.drewN {a b : World} (n : Nat) (h : Ext a b) : Ext a (b.drewN n) := by
  have h' : Below a.heap.size a b := h
  exact ⟨h'.os, h'.tape, h'.output, h'.size, h'.block⟩
theorem Ext.alloc {a b : World} (h : Ext a b) (o : Obj) : Ext a (b.alloc o) := Below.alloc h (Below.size h) o
theorem Ext.setCell {a b : World} (h : Ext a b) {p : Addr} (hp : a.heap.size ≤ p.block) (v : Value) : Ext a (b.setCell p v) := Below.setCell h hp v
/-- From behind a new block on. -/
theorem Ext.past {a b : World} {o : Obj} (h : Ext (a.alloc o) b) : Ext a b := ((Ext.refl a).alloc o).trans h
theorem Ext.past_drew {a b : World} (h : Ext a.drew b) : Ext a b := (Ext.refl a).drew.trans h
theorem cell_lt {w : World} {b o : Nat} {v : Value} (hc : w.cell? ⟨b, o, none⟩ = some v) : b < w.heap.size := by
  have := hc
  simp only [World.cell?] at this
  by_cases hx : b < w.heap.size
  · exact hx
  · rw [Array.getElem?_eq_none (by omega)] at this; simp at this
theorem Ext.cell {w w' : World} (h : Ext w w') {b o : Nat} {v : Value} (hc : w.cell? ⟨b, o, none⟩ = some v) : w'.cell? ⟨b, o, none⟩ = some v := by
  rw [Below.cell h (p := ⟨b, o, none⟩) (cell_lt hc)]; exact hc
theorem Ext.frozen {w w' : World} (h : Ext w w') {b o : Nat} {v : Value} {t : Bool} (hc : w.cell? ⟨b, o, none⟩ = some v) (hf : w.frozen? ⟨b, o, none⟩ = t) : w'.frozen? ⟨b, o, none⟩ = t := by
  rw [Below.frozen h (p := ⟨b, o, none⟩) (cell_lt hc)]; exact hf
/-- Old cells and marks read as before: rules for the walk. -/
theorem Ext.rules {w w' : World} (h : Ext w w') : (∀ b o, b < w.heap.size → w'.cell? ⟨b, o, none⟩ = w.cell? ⟨b, o, none⟩) ∧ (∀ b o, b < w.heap.size → w'.frozen? ⟨b, o, none⟩ = w.frozen? ⟨b, o, none⟩) :=
  ⟨fun b o hb => Below.cell h (p := ⟨b, o, none⟩) hb, fun b o hb => Below.frozen h (p := ⟨b, o, none⟩) hb⟩
/-- A new block's cell, behind a call that only makes blocks. -/
theorem Ext.box {w w' : World} {c : Array Value} {t : TypeId} (h : Ext (w.alloc (.cells c t)) w') (i : Nat) (v : Value) (hv : c[i]? = some v) :
    w'.cell? ⟨w.heap.size, i, none⟩ = some v ∧ w'.frozen? ⟨w.heap.size, i, none⟩ = false ∧ w.heap.size < w'.heap.size := by
  have hc : (w.alloc (.cells c t)).cell? ⟨w.heap.size, i, none⟩ = some v := by rw [World.cell?_alloc_at _ _ _ _ rfl]; exact hv
  refine ⟨h.cell hc, h.frozen hc (World.frozen?_alloc_at _ _ _ _ rfl), ?_⟩
  have := h.size
  simp at this
  omega
theorem set_same {w : World} {b o : Nat} {v u : Value} (hc : w.cell? ⟨b, o, none⟩ = some v) : (w.setCell ⟨b, o, none⟩ u).cell? ⟨b, o, none⟩ = some u := World.cell?_setCell_same _ _ _ hc
theorem set_other {w : World} {a b : Addr} {u v : Value} (h : a ≠ b) (hc : w.cell? b = some v) : (w.setCell a u).cell? b = some v := by rw [World.cell?_setCell_other _ _ _ _ h]; exact hc
end Go.Proofs.Ytpfelklhejpnnaa

/- The bit operations on numbers of 32 bits, as those of natural numbers. -/
namespace Go.Proofs.Ytpfelklhejpnnaa
open Go.RowKit

theorem ofInt32 (a : Int) (h0 : 0 ≤ a) (h1 : a ≤ 4294967295) : (BitVec.ofInt 32 a).toNat = a.toNat := by
  rw [BitVec.toNat_ofInt]
  have : a % ((2 ^ 32 : Nat) : Int) = a := Int.emod_eq_of_lt h0 (by simp; omega)
  rw [this]
theorem wrap32u (n : Nat) (h : n < 4294967296) : IntKind.u32.wrap (n : Int) = n := IntWalk.u32_in _ (by omega)
theorem bits_and32 (a b : Int) (a0 : 0 ≤ a) (a1 : a ≤ 4294967295) (b0 : 0 ≤ b) (b1 : b ≤ 4294967295) : bits .and .u32 a b = ((a.toNat &&& b.toNat : Nat) : Int) := by
  show IntKind.u32.wrap (((BitVec.ofInt 32 a) &&& (BitVec.ofInt 32 b)).toNat : Int) = _
  rw [BitVec.toNat_and, ofInt32 a a0 a1, ofInt32 b b0 b1]
  exact wrap32u _ (Nat.and_lt_two_pow (n := 32) _ (by omega))
theorem bits_or32 (a b : Int) (a0 : 0 ≤ a) (a1 : a ≤ 4294967295) (b0 : 0 ≤ b) (b1 : b ≤ 4294967295) : bits .or .u32 a b = ((a.toNat ||| b.toNat : Nat) : Int) := by
  show IntKind.u32.wrap (((BitVec.ofInt 32 a) ||| (BitVec.ofInt 32 b)).toNat : Int) = _
  rw [BitVec.toNat_or, ofInt32 a a0 a1, ofInt32 b b0 b1]
  exact wrap32u _ (Nat.or_lt_two_pow (n := 32) (by omega) (by omega))
theorem bits_xor32 (a b : Int) (a0 : 0 ≤ a) (a1 : a ≤ 4294967295) (b0 : 0 ≤ b) (b1 : b ≤ 4294967295) : bits .xor .u32 a b = ((a.toNat ^^^ b.toNat : Nat) : Int) := by
  show IntKind.u32.wrap (((BitVec.ofInt 32 a) ^^^ (BitVec.ofInt 32 b)).toNat : Int) = _
  rw [BitVec.toNat_xor, ofInt32 a a0 a1, ofInt32 b b0 b1]
  exact wrap32u _ (Nat.xor_lt_two_pow (n := 32) (by omega) (by omega))
theorem bits32_bd (op : BinOp) (a b : Int) : 0 ≤ bits op .u32 a b ∧ bits op .u32 a b ≤ 4294967295 := by
  have : ∀ n : Int, 0 ≤ IntKind.u32.wrap n ∧ IntKind.u32.wrap n ≤ 4294967295 := fun n => by rw [IntKind.wrap_u32]; omega
  exact this _
theorem two_or : ∀ x, x < 2 → ∀ y, y < 2 → (x ||| y) + (x &&& y) = x + y := by decide
theorem two_xor : ∀ x, x < 2 → ∀ y, y < 2 → (x ^^^ y) + 2 * (x &&& y) = x + y := by decide
theorem nat_or_and (a : Nat) : ∀ b, (a ||| b) + (a &&& b) = a + b := by
  induction a using Nat.strongRecOn with
  | ind a ih =>
    intro b
    by_cases h0 : a = 0
    · subst h0; simp
    · have h := ih (a / 2) (by omega) (b / 2)
      have e1 := Nat.or_div_two (a := a) (b := b)
      have e2 := Nat.and_div_two (a := a) (b := b)
      have m1 : (a ||| b) % 2 = (a % 2) ||| (b % 2) := by rw [show (2 : Nat) = 2 ^ 1 from rfl, Nat.or_mod_two_pow]
      have m2 : (a &&& b) % 2 = (a % 2) &&& (b % 2) := by rw [show (2 : Nat) = 2 ^ 1 from rfl, Nat.and_mod_two_pow]
      have k := two_or (a % 2) (by omega) (b % 2) (by omega)
      rw [← m1, ← m2] at k
      omega
theorem nat_xor_and (a : Nat) : ∀ b, (a ^^^ b) + 2 * (a &&& b) = a + b := by
  induction a using Nat.strongRecOn with
  | ind a ih =>
    intro b
    by_cases h0 : a = 0
    · subst h0; simp
    · have h := ih (a / 2) (by omega) (b / 2)
      have e1 := Nat.xor_div_two (a := a) (b := b)
      have e2 := Nat.and_div_two (a := a) (b := b)
      have m1 : (a ^^^ b) % 2 = (a % 2) ^^^ (b % 2) := by rw [show (2 : Nat) = 2 ^ 1 from rfl, Nat.xor_mod_two_pow]
      have m2 : (a &&& b) % 2 = (a % 2) &&& (b % 2) := by rw [show (2 : Nat) = 2 ^ 1 from rfl, Nat.and_mod_two_pow]
      have k := two_xor (a % 2) (by omega) (b % 2) (by omega)
      rw [← m1, ← m2] at k
      omega
/-- Of two numbers: their union and intersection have their sum; their difference is that of these. -/
theorem bits_sum (a b : Int) (a0 : 0 ≤ a) (a1 : a ≤ 4294967295) (b0 : 0 ≤ b) (b1 : b ≤ 4294967295) :
    bits .or .u32 a b + bits .and .u32 a b = a + b ∧ bits .xor .u32 a b = bits .or .u32 a b - bits .and .u32 a b ∧ 0 ≤ bits .and .u32 a b ∧ bits .and .u32 a b ≤ 4294967295 ∧ 0 ≤ bits .or .u32 a b ∧ bits .or .u32 a b ≤ 4294967295 := by
  have h1 := nat_or_and a.toNat b.toNat
  have h2 := nat_xor_and a.toNat b.toNat
  have c1 := bits32_bd .and a b
  have c2 := bits32_bd .or a b
  rw [bits_and32 a b a0 a1 b0 b1, bits_or32 a b a0 a1 b0 b1, bits_xor32 a b a0 a1 b0 b1] at *
  omega
end Go.Proofs.Ytpfelklhejpnnaa

/- Layer 3: CRC-32: plain. -/
namespace Go.Proofs.Ytpfelklhejpnnaa
namespace Crc
set_option linter.unusedVariables false

def poly : Nat := 3988292384
/-- One shift of the register. -/
def cs (r : Nat) : Nat := if r % 2 = 1 then (r / 2) ^^^ poly else r / 2
def csN : Nat → Nat → Nat
  | 0, r => r
  | k + 1, r => cs (csN k r)
/-- The register behind a byte. -/
def reg (r b : Nat) : Nat := csN 8 (r ^^^ b)
def run (r : Nat) (l : List Nat) : Nat := l.foldl reg r
def nt (r : Nat) : Nat := 4294967295 - r
def upd (s : Nat) (l : List Nat) : Nat := nt (run (nt s) l)
def sum (l : List Nat) : Nat := upd 0 l
theorem xor_lt32 {x y : Nat} (hx : x < 4294967296) (hy : y < 4294967296) : x ^^^ y < 4294967296 := Nat.xor_lt_two_pow (n := 32) hx hy
theorem cs_lt {r : Nat} (h : r < 4294967296) : cs r < 4294967296 := by
  unfold cs
  split
  · exact xor_lt32 (by omega) (by decide)
  · omega
theorem csN_lt : ∀ k {r : Nat}, r < 4294967296 → csN k r < 4294967296
  | 0, _, h => h
  | k + 1, _, h => cs_lt (csN_lt k h)
theorem reg_lt {r b : Nat} (h : r < 4294967296) (hb : b < 256) : reg r b < 4294967296 := csN_lt 8 (xor_lt32 h (by omega))
theorem run_lt : ∀ (l : List Nat) {r : Nat}, r < 4294967296 → (∀ x ∈ l, x < 256) → run r l < 4294967296
  | [], _, h, _ => h
  | x :: l, r, h, hl => run_lt l (reg_lt h (hl x List.mem_cons_self)) (fun y hy => hl y (List.mem_cons_of_mem _ hy))
theorem nt_lt (r : Nat) : nt r < 4294967296 := by unfold nt; omega
theorem run_snoc (r : Nat) (l : List Nat) (x : Nat) : run r (l ++ [x]) = reg (run r l) x := by unfold run; rw [List.foldl_append]; rfl
/-! ### Linear. -/
theorem cs_eq (r : Nat) : cs r = (r >>> 1) ^^^ ((r % 2) * poly) := by
  unfold cs
  rw [Nat.shiftRight_eq_div_pow]
  by_cases h : r % 2 = 1
  · rw [if_pos h, h, Nat.one_mul]
  · rw [if_neg h, show r % 2 = 0 by omega, Nat.zero_mul, Nat.xor_zero]
theorem bit_poly : ∀ p, p < 2 → ∀ q, q < 2 → (p ^^^ q) * poly = (p * poly) ^^^ (q * poly) := by decide
theorem xor4 (a b c d : Nat) : (a ^^^ b) ^^^ (c ^^^ d) = (a ^^^ c) ^^^ (b ^^^ d) := by
  rw [Nat.xor_assoc, Nat.xor_assoc, ← Nat.xor_assoc b c d, ← Nat.xor_assoc c b d, Nat.xor_comm b c]
theorem cs_xor (x y : Nat) : cs (x ^^^ y) = cs x ^^^ cs y := by
  rw [cs_eq, cs_eq, cs_eq, Nat.shiftRight_xor_distrib, show (x ^^^ y) % 2 = (x % 2) ^^^ (y % 2) by rw [show (2 : Nat) = 2 ^ 1 from rfl, Nat.xor_mod_two_pow], bit_poly _ (by omega) _ (by omega)]
  exact xor4 _ _ _ _
theorem csN_xor : ∀ k x y, csN k (x ^^^ y) = csN k x ^^^ csN k y
  | 0, _, _ => rfl
  | k + 1, x, y => by rw [csN, csN, csN, csN_xor k x y, cs_xor]
theorem cs_two (m : Nat) : cs (2 * m) = m := by unfold cs; rw [if_neg (by omega)]; omega
theorem csN_8 (h : Nat) : csN 8 (256 * h) = h := by
  show cs (cs (cs (cs (cs (cs (cs (cs (256 * h)))))))) = h
  rw [show 256 * h = 2 * (128 * h) by omega, cs_two, show 128 * h = 2 * (64 * h) by omega, cs_two, show 64 * h = 2 * (32 * h) by omega, cs_two, show 32 * h = 2 * (16 * h) by omega, cs_two, show 16 * h = 2 * (8 * h) by omega, cs_two, show 8 * h = 2 * (4 * h) by omega, cs_two, show 4 * h = 2 * (2 * h) by omega, cs_two, cs_two]
theorem split_xor (r : Nat) : r = (256 * (r / 256)) ^^^ (r % 256) := by
  have h := nat_xor_and (256 * (r / 256)) (r % 256)
  have h0 : (256 * (r / 256)) &&& (r % 256) = 0 := by
    refine Nat.eq_of_testBit_eq fun j => ?_
    rw [Nat.testBit_and, Nat.zero_testBit, show (256 : Nat) = 2 ^ 8 from rfl, Nat.testBit_two_pow_mul, Nat.testBit_mod_two_pow]
    by_cases hj : j < 8
    · simp; omega
    · simp; omega
  rw [h0] at h
  omega
/-- By the table of all bytes. -/
theorem reg_table (r b : Nat) : reg r b = (r / 256) ^^^ csN 8 ((r % 256) ^^^ b) := by
  unfold reg
  conv => lhs; rw [split_xor r, Nat.xor_assoc, csN_xor, csN_8]
end Crc
/-- The checksum of bytes, and what is sealed. -/
def nl (l : List Int) : List Nat := l.map Int.toNat
def sumI (l : List Int) : Nat := Crc.sum (nl l)
theorem sumI_lt (l : List Int) : sumI l < 4294967296 := Crc.nt_lt _
def tail4 (s : Nat) : List Int := [((s % 256 : Nat) : Int), ((s / 256 % 256 : Nat) : Int), ((s / 65536 % 256 : Nat) : Int), ((s / 16777216 % 256 : Nat) : Int)]
def sealF (l : List Int) : List Int := l ++ tail4 (sumI l)
/-- What Open returns: the number of the error, and the bytes. -/
def openF (l : List Int) : Nat × List Int := if 65536 < l.length then (5, []) else if l.length < 4 then (9, []) else if sealF (l.take (l.length - 4)) = l then (0, l.take (l.length - 4)) else (10, [])
theorem open_seal (l : List Int) (h : l.length ≤ 60000) : openF (sealF l) = (0, l) := by
  have hl : (sealF l).length = l.length + 4 := by simp [sealF, tail4]
  have ht : (sealF l).take ((sealF l).length - 4) = l := by rw [hl, Nat.add_sub_cancel]; unfold sealF; rw [List.take_left']; rfl
  unfold openF
  rw [if_neg (by omega), if_neg (by omega), ht, if_pos rfl]
end Go.Proofs.Ytpfelklhejpnnaa

/- A map from integers that a text writes down: filled entry by entry, and looked up. -/
namespace Go.Proofs.Ytpfelklhejpnnaa
open Go.RowKit Go.MapKept
set_option linter.unusedVariables false

/-- The entries of a map that is filled in the list's order. -/
def ents : Nat → List (Int × Value) → List MapEntry
  | _, [] => []
  | n, p :: r => ⟨.int .i64 p.1, p.2, n⟩ :: ents (n + 1) r
def tblObj (l : List (Int × Value)) : Obj := .map (ents 0 l).toArray l.length
def look (k : Int) : List (Int × Value) → Option Value
  | [] => none
  | p :: r => if k = p.1 then some p.2 else look k r
theorem ents_snoc (k : Int) (v : Value) : ∀ (l : List (Int × Value)) (n : Nat), ents n (l ++ [(k, v)]) = ents n l ++ [⟨.int .i64 k, v, n + l.length⟩]
  | [], n => rfl
  | p :: r, n => by
    show _ :: ents (n + 1) (r ++ [(k, v)]) = _
    rw [ents_snoc k v r (n + 1)]
    simp [ents]
    omega
theorem find_ents (k : Int) : ∀ (l : List (Int × Value)) (n i : Nat), (look k l = none → Instr.findNow (.int .i64) (.int .i64 k) (ents n l) i = some none) ∧ (∀ v, look k l = some v → ∃ j, Instr.findNow (.int .i64) (.int .i64 k) (ents n l) i = some (some (j, v)))
  | [], n, i => ⟨fun _ => rfl, fun v h => by cases h⟩
  | p :: r, n, i => by
    have ih := find_ents k r (n + 1) (i + 1)
    by_cases h : k = p.1
    · subst h
      refine ⟨fun e => ?_, fun v e => ⟨i, ?_⟩⟩
      · simp [look] at e
      · simp only [look, if_true, Option.some.injEq] at e
        subst e
        simp [ents, Instr.findNow, Instr.sameNow]
    · have hbe : (k == p.1) = false := by simp [h]
      refine ⟨fun e => ?_, fun v e => ?_⟩
      · simp only [look, h, if_false] at e
        have := ih.1 e
        simp [ents, Instr.findNow, Instr.sameNow, hbe, this]
      · simp only [look, h, if_false] at e
        obtain ⟨j, hj⟩ := ih.2 v e
        exact ⟨j, by simp [ents, Instr.findNow, Instr.sameNow, hbe, hj]⟩
theorem look_none {k : Int} : ∀ {l : List (Int × Value)}, (∀ p ∈ l, p.1 ≠ k) → look k l = none
  | [], _ => rfl
  | p :: r, h => by
    have h1 : ¬ k = p.1 := fun e => h p (by simp) e.symm
    simp only [look, h1, if_false]
    exact look_none (fun q hq => h q (by simp [hq]))

/-- A new entry. -/
theorem run_insert {P : Program} {w : World} {t kt et : TypeId} (ht : P.underlying t = some (.map kt et)) (hk : P.underlying kt = some (.int .i64)) (l : List (Int × Value)) (k : Int) (v : Value) (hnew : look k l = none) :
    (Instr.mapUpdate t (.map (some w.heap.size)) (.int .i64 k) v).run P (w.alloc (tblObj l)) = .ok () (w.alloc (tblObj (l ++ [(k, v)]))) := by
  have hb : (w.alloc (tblObj l)).heap[w.heap.size]? = some (.map (ents 0 l).toArray l.length) := (heap_alloc w _).1
  have hf := (find_ents k l 0 0).1 hnew
  unfold Instr.mapUpdate
  simp only [Sem.run_bind, run_underlying ht, Result.andThen, Go.MapKept.run_getObj_map hb, run_checkKey hk (show IsKey (.int .i64) (.int .i64 k) from rfl), run_findKey hk (l := (ents 0 l)) hf]
  rw [run_setObj_map _ hb]
  congr 1
  have e : (w.alloc (tblObj l)).heap = w.heap.push (tblObj l) := rfl
  rw [e]
  have e2 : w.alloc (tblObj (l ++ [(k, v)])) = { w.alloc (tblObj l) with heap := w.heap.push (tblObj (l ++ [(k, v)])) } := rfl
  rw [e2]
  congr 1
  rw [show tblObj (l ++ [(k, v)]) = .map ((ents 0 l).toArray.push ⟨.int .i64 k, v, l.length⟩) (l.length + 1) by
    unfold tblObj
    rw [ents_snoc]
    simp]
  have e3 : ∀ (h : Array Obj) (x y : Obj), (h.push x).setIfInBounds h.size y = h.push y := by
    intro h x y
    apply Array.ext'
    simp
  exact e3 _ _ _
theorem run_look {P : Program} {w : World} {t kt et : TypeId} (ht : P.underlying t = some (.map kt et)) (hk : P.underlying kt = some (.int .i64)) {r : Nat} (l : List (Int × Value)) (hb : w.heap[r]? = some (tblObj l)) (k : Int) (v : Value) (h : look k l = some v) :
    (Instr.lookup t (.map (some r)) (.int .i64 k) true).run P w = .ok (.tuple #[v, .bool true]) w := by
  have hb' : w.heap[r]? = some (.map (ents 0 l).toArray l.length) := hb
  obtain ⟨j, hf⟩ := (find_ents k l 0 0).2 v h
  unfold Instr.lookup
  simp only [Sem.run_bind, run_underlying ht, Result.andThen, Go.MapKept.run_getObj_map hb', run_checkKey hk (show IsKey (.int .i64) (.int .i64 k) from rfl), Sem.run_pure, run_findKey hk (l := (ents 0 l)) hf]
  rfl
theorem run_look_none {P : Program} {w : World} {t kt et : TypeId} (ht : P.underlying t = some (.map kt et)) (hk : P.underlying kt = some (.int .i64)) {r : Nat} (l : List (Int × Value)) (hb : w.heap[r]? = some (tblObj l)) (k : Int) (z : Value) (hz : (zeroValue et).run P w = .ok z w) (h : look k l = none) :
    (Instr.lookup t (.map (some r)) (.int .i64 k) true).run P w = .ok (.tuple #[z, .bool false]) w := by
  have hb' : w.heap[r]? = some (.map (ents 0 l).toArray l.length) := hb
  have hf := (find_ents k l 0 0).1 h
  unfold Instr.lookup
  simp only [Sem.run_bind, run_underlying ht, Result.andThen, Go.MapKept.run_getObj_map hb', run_checkKey hk (show IsKey (.int .i64) (.int .i64 k) from rfl), Sem.run_pure, run_findKey hk (l := (ents 0 l)) hf, hz]
  rfl
/-- At the operation. -/
theorem wpList_insert_lit {P : Program} {w : World} {ops : Array Oper} {rest : List Oper} {o : Oper} {a : Act} {Q : Exit → Act → World → Prop} (hg : o.guard = none) (m x v : Operand) (t : TypeId) (hop : o.op = Op.insert t m x v)
    (kt et : TypeId) (ht : P.underlying t = some (.map kt et)) (hk : P.underlying kt = some (.int .i64)) (l : List (Int × Value)) (k : Int) (val : Value) (hm : a.eval m = .map (some w.heap.size)) (hx : a.eval x = .int .i64 k) (hv : a.eval v = val) (hnew : look k l = none)
    (hK : wpList P ops Q rest (a.put o.dst undef) (w.alloc (tblObj (l ++ [(k, val)])))) :
    wpList P ops Q (o :: rest) a (w.alloc (tblObj l)) := by
  refine wpList_plain hg fun K' hK' => ?_
  have hrun := run_insert (w := w) ht hk l k val hnew
  unfold Oper.wp
  simp [execOp, hop, hm, hx, hv, hrun, Result.andThen]
  exact hK' _ _ hK
theorem tbl_nil (w : World) : w.alloc (.map #[] 0) = w.alloc (tblObj []) := rfl
theorem tbl_at (w : World) (l : List (Int × Value)) : (w.alloc (tblObj l)).heap[w.heap.size]? = some (tblObj l) := (heap_alloc w _).1
theorem tbl_ext {w w' : World} (h : Ext w w') {r : Nat} {l : List (Int × Value)} (hb : w.heap[r]? = some (tblObj l)) : w'.heap[r]? = some (tblObj l) := by
  have h' : Below w.heap.size w w' := h
  rw [h'.block r ((Array.getElem?_eq_some_iff.1 hb).1)]; exact hb
end Go.Proofs.Ytpfelklhejpnnaa
