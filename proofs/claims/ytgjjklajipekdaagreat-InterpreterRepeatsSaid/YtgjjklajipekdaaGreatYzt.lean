/- Layer 22: a loop is executed as often as its number says, or until it is left: the plain part. -/
import Derived.Test.YtgjjklajipekdaaGreatYzs
namespace Go.Proofs.YtgjjklajipekdaaGreat
open Go.RowKit
set_option linter.unusedVariables false
set_option linter.unusedSimpArgs false

def rng (n : Nat) : List Int := (List.range n).map (fun (x : Nat) => (x : Int))
theorem rng_succ (n : Nat) : rng (n + 1) = rng n ++ [(n : Int)] := by unfold rng; rw [List.range_succ, List.map_append]; rfl
theorem rng_len (n : Nat) : (rng n).length = n := by unfold rng; simp
/-- The program that counts, but is left before the number l is emitted. -/
def brC (n l : Int) : List (Int × Int) := [(0, n), (29, 0), (1, 0), (0, l), (21, 0), (30, 0), (1, 0), (34, 0), (1, 0), (0, 1), (8, 0), (2, 0), (31, 0)]
theorem exe_8 (E : Env) (arg : Int) (l : List Vl) (s : MS) : exeF E 8 arg l s = calcF 8 l s := by unfold exeF; repeat rw [if_neg (by decide)]
theorem exe_21 (E : Env) (arg : Int) (l : List Vl) (s : MS) : exeF E 21 arg l s = calcF 21 l s := by unfold exeF; repeat rw [if_neg (by decide)]
def cE (n : Nat) : Env := { A := [], L := 1, C := cntC n, P := [-1, 8, -1, -1, -1, -1, -1, -1, 1], inp := 0, ended := true, fuel := 5000 }
def bE (n l : Nat) : Env := { A := [], L := 1, C := brC n l, P := [-1, 12, -1, -1, -1, 12, -1, -1, -1, -1, -1, -1, 1], inp := 0, ended := true, fuel := 5000 }
set_option maxRecDepth 100000 in
theorem cbody_more (n l : Nat) (i s left : Int) (o : List Int) (m : Nat) (h0 : 0 ≤ i) (h1 : i ≤ 255) (hs0 : 0 ≤ s) (hs : s + 7 ≤ 5000) (ho : o.length < 65536) (hl : 1 < left) :
    runN (cE n) (m + 7) { ar := [], cx := z16, pc := 2, st := [], fr := [⟨0, 1, left, true⟩], lo := [i], out := o, steps := s } = runN (cE n) m { ar := [], cx := z16, pc := 2, st := [], fr := [⟨0, 1, left - 1, true⟩], lo := [i + 1], out := o ++ [i], steps := s + 7 } := by
  rw [show (s + 7 : Int) = s + 1 + 1 + 1 + 1 + 1 + 1 + 1 by omega]
  have k0 : stepF (cE n) { ar := [], cx := z16, pc := 2, st := [], fr := [⟨0, 1, left, true⟩], lo := [i], out := o, steps := s } = .go { ar := [], cx := z16, pc := 3, st := [(i, false)], fr := [⟨0, 1, left, true⟩], lo := [i], out := o, steps := s + 1 } := st_at (op := 1) (arg := 0) (l := []) (r := []) (t := { ar := [], cx := z16, pc := 2, st := [(i, false)], fr := [⟨0, 1, left, true⟩], lo := [i], out := o, steps := s + 1 }) (by kernel_rfl) (by kernel_rfl) (by show s < 5000; omega) (by decide) (by kernel_rfl) (by kernel_rfl) (by kernel_rfl)
  have k1 : stepF (cE n) { ar := [], cx := z16, pc := 3, st := [(i, false)], fr := [⟨0, 1, left, true⟩], lo := [i], out := o, steps := s + 1 } = .go { ar := [], cx := z16, pc := 4, st := [], fr := [⟨0, 1, left, true⟩], lo := [i], out := o ++ [i], steps := s + 1 + 1 } := st_at (op := 34) (arg := 0) (l := [(i, false)]) (r := []) (t := { ar := [], cx := z16, pc := 3, st := [], fr := [⟨0, 1, left, true⟩], lo := [i], out := o ++ [i], steps := s + 1 + 1 }) (by kernel_rfl) (by kernel_rfl) (by show s + 1 < 5000; omega) (by decide) (by kernel_rfl) (by kernel_rfl) (by show emitF i _ = _; unfold emitF; rw [if_pos ho, Int.emod_eq_of_lt h0 (by omega)])
  have k2 : stepF (cE n) { ar := [], cx := z16, pc := 4, st := [], fr := [⟨0, 1, left, true⟩], lo := [i], out := o ++ [i], steps := s + 1 + 1 } = .go { ar := [], cx := z16, pc := 5, st := [(i, false)], fr := [⟨0, 1, left, true⟩], lo := [i], out := o ++ [i], steps := s + 1 + 1 + 1 } := st_at (op := 1) (arg := 0) (l := []) (r := []) (t := { ar := [], cx := z16, pc := 4, st := [(i, false)], fr := [⟨0, 1, left, true⟩], lo := [i], out := o ++ [i], steps := s + 1 + 1 + 1 }) (by kernel_rfl) (by kernel_rfl) (by show s + 1 + 1 < 5000; omega) (by decide) (by kernel_rfl) (by kernel_rfl) (by kernel_rfl)
  have k3 : stepF (cE n) { ar := [], cx := z16, pc := 5, st := [(i, false)], fr := [⟨0, 1, left, true⟩], lo := [i], out := o ++ [i], steps := s + 1 + 1 + 1 } = .go { ar := [], cx := z16, pc := 6, st := [(i, false), (1, false)], fr := [⟨0, 1, left, true⟩], lo := [i], out := o ++ [i], steps := s + 1 + 1 + 1 + 1 } := st_at (op := 0) (arg := 1) (l := []) (r := [(i, false)]) (t := { ar := [], cx := z16, pc := 5, st := [(i, false), (1, false)], fr := [⟨0, 1, left, true⟩], lo := [i], out := o ++ [i], steps := s + 1 + 1 + 1 + 1 }) (by kernel_rfl) (by kernel_rfl) (by show s + 1 + 1 + 1 < 5000; omega) (by decide) (by kernel_rfl) (by kernel_rfl) (by kernel_rfl)
  have k4 : stepF (cE n) { ar := [], cx := z16, pc := 6, st := [(i, false), (1, false)], fr := [⟨0, 1, left, true⟩], lo := [i], out := o ++ [i], steps := s + 1 + 1 + 1 + 1 } = .go { ar := [], cx := z16, pc := 7, st := [(i + 1, false)], fr := [⟨0, 1, left, true⟩], lo := [i], out := o ++ [i], steps := s + 1 + 1 + 1 + 1 + 1 } := st_at (op := 8) (arg := 0) (l := [(i, false), (1, false)]) (r := []) (t := { ar := [], cx := z16, pc := 6, st := [(i + 1, false)], fr := [⟨0, 1, left, true⟩], lo := [i], out := o ++ [i], steps := s + 1 + 1 + 1 + 1 + 1 }) (by kernel_rfl) (by kernel_rfl) (by show s + 1 + 1 + 1 + 1 < 5000; omega) (by decide) (by kernel_rfl) (by kernel_rfl) (by rw [exe_8]; exact calc_8 i 1 _ rfl (by omega) (by omega))
  have k5 : stepF (cE n) { ar := [], cx := z16, pc := 7, st := [(i + 1, false)], fr := [⟨0, 1, left, true⟩], lo := [i], out := o ++ [i], steps := s + 1 + 1 + 1 + 1 + 1 } = .go { ar := [], cx := z16, pc := 8, st := [], fr := [⟨0, 1, left, true⟩], lo := [i + 1], out := o ++ [i], steps := s + 1 + 1 + 1 + 1 + 1 + 1 } := st_at (op := 2) (arg := 0) (l := [(i + 1, false)]) (r := []) (t := { ar := [], cx := z16, pc := 7, st := [], fr := [⟨0, 1, left, true⟩], lo := [i + 1], out := o ++ [i], steps := s + 1 + 1 + 1 + 1 + 1 + 1 }) (by kernel_rfl) (by kernel_rfl) (by show s + 1 + 1 + 1 + 1 + 1 < 5000; omega) (by decide) (by kernel_rfl) (by kernel_rfl) (by kernel_rfl)
  have k6 : stepF (cE n) { ar := [], cx := z16, pc := 8, st := [], fr := [⟨0, 1, left, true⟩], lo := [i + 1], out := o ++ [i], steps := s + 1 + 1 + 1 + 1 + 1 + 1 } = .go { ar := [], cx := z16, pc := 2, st := [], fr := [⟨0, 1, left - 1, true⟩], lo := [i + 1], out := o ++ [i], steps := s + 1 + 1 + 1 + 1 + 1 + 1 + 1 } := st_end (t := { ar := [], cx := z16, pc := 1, st := [], fr := [⟨0, 1, left - 1, true⟩], lo := [i + 1], out := o ++ [i], steps := s + 1 + 1 + 1 + 1 + 1 + 1 + 1 }) (by kernel_rfl) (by kernel_rfl) (by kernel_rfl) (by unfold endF; show (if ((0 : Int)) ≠ 0 then _ else if true = true ∧ 1 < left then tickF _ _ else _) = _; rw [if_neg (by decide), if_pos ⟨rfl, hl⟩]; unfold tickF; rw [if_pos (by show s + 1 + 1 + 1 + 1 + 1 + 1 < 5000; omega)]; rfl)
  rw [run_go (n := m + 6) (by show (2 : Int) < 9; decide) k0, run_go (n := m + 5) (by show (3 : Int) < 9; decide) k1, run_go (n := m + 4) (by show (4 : Int) < 9; decide) k2, run_go (n := m + 3) (by show (5 : Int) < 9; decide) k3, run_go (n := m + 2) (by show (6 : Int) < 9; decide) k4, run_go (n := m + 1) (by show (7 : Int) < 9; decide) k5, run_go (n := m + 0) (by show (8 : Int) < 9; decide) k6]
  rfl
set_option maxRecDepth 100000 in
theorem cbody_last (n l : Nat) (i s left : Int) (o : List Int) (m : Nat) (h0 : 0 ≤ i) (h1 : i ≤ 255) (hs0 : 0 ≤ s) (hs : s + 7 ≤ 5000) (ho : o.length < 65536) (hl : ¬ 1 < left) :
    runN (cE n) (m + 7) { ar := [], cx := z16, pc := 2, st := [], fr := [⟨0, 1, left, true⟩], lo := [i], out := o, steps := s } = runN (cE n) m { ar := [], cx := z16, pc := 9, st := [], fr := [], lo := [i + 1], out := o ++ [i], steps := s + 6 } := by
  rw [show (s + 6 : Int) = s + 1 + 1 + 1 + 1 + 1 + 1 by omega]
  have k0 : stepF (cE n) { ar := [], cx := z16, pc := 2, st := [], fr := [⟨0, 1, left, true⟩], lo := [i], out := o, steps := s } = .go { ar := [], cx := z16, pc := 3, st := [(i, false)], fr := [⟨0, 1, left, true⟩], lo := [i], out := o, steps := s + 1 } := st_at (op := 1) (arg := 0) (l := []) (r := []) (t := { ar := [], cx := z16, pc := 2, st := [(i, false)], fr := [⟨0, 1, left, true⟩], lo := [i], out := o, steps := s + 1 }) (by kernel_rfl) (by kernel_rfl) (by show s < 5000; omega) (by decide) (by kernel_rfl) (by kernel_rfl) (by kernel_rfl)
  have k1 : stepF (cE n) { ar := [], cx := z16, pc := 3, st := [(i, false)], fr := [⟨0, 1, left, true⟩], lo := [i], out := o, steps := s + 1 } = .go { ar := [], cx := z16, pc := 4, st := [], fr := [⟨0, 1, left, true⟩], lo := [i], out := o ++ [i], steps := s + 1 + 1 } := st_at (op := 34) (arg := 0) (l := [(i, false)]) (r := []) (t := { ar := [], cx := z16, pc := 3, st := [], fr := [⟨0, 1, left, true⟩], lo := [i], out := o ++ [i], steps := s + 1 + 1 }) (by kernel_rfl) (by kernel_rfl) (by show s + 1 < 5000; omega) (by decide) (by kernel_rfl) (by kernel_rfl) (by show emitF i _ = _; unfold emitF; rw [if_pos ho, Int.emod_eq_of_lt h0 (by omega)])
  have k2 : stepF (cE n) { ar := [], cx := z16, pc := 4, st := [], fr := [⟨0, 1, left, true⟩], lo := [i], out := o ++ [i], steps := s + 1 + 1 } = .go { ar := [], cx := z16, pc := 5, st := [(i, false)], fr := [⟨0, 1, left, true⟩], lo := [i], out := o ++ [i], steps := s + 1 + 1 + 1 } := st_at (op := 1) (arg := 0) (l := []) (r := []) (t := { ar := [], cx := z16, pc := 4, st := [(i, false)], fr := [⟨0, 1, left, true⟩], lo := [i], out := o ++ [i], steps := s + 1 + 1 + 1 }) (by kernel_rfl) (by kernel_rfl) (by show s + 1 + 1 < 5000; omega) (by decide) (by kernel_rfl) (by kernel_rfl) (by kernel_rfl)
  have k3 : stepF (cE n) { ar := [], cx := z16, pc := 5, st := [(i, false)], fr := [⟨0, 1, left, true⟩], lo := [i], out := o ++ [i], steps := s + 1 + 1 + 1 } = .go { ar := [], cx := z16, pc := 6, st := [(i, false), (1, false)], fr := [⟨0, 1, left, true⟩], lo := [i], out := o ++ [i], steps := s + 1 + 1 + 1 + 1 } := st_at (op := 0) (arg := 1) (l := []) (r := [(i, false)]) (t := { ar := [], cx := z16, pc := 5, st := [(i, false), (1, false)], fr := [⟨0, 1, left, true⟩], lo := [i], out := o ++ [i], steps := s + 1 + 1 + 1 + 1 }) (by kernel_rfl) (by kernel_rfl) (by show s + 1 + 1 + 1 < 5000; omega) (by decide) (by kernel_rfl) (by kernel_rfl) (by kernel_rfl)
  have k4 : stepF (cE n) { ar := [], cx := z16, pc := 6, st := [(i, false), (1, false)], fr := [⟨0, 1, left, true⟩], lo := [i], out := o ++ [i], steps := s + 1 + 1 + 1 + 1 } = .go { ar := [], cx := z16, pc := 7, st := [(i + 1, false)], fr := [⟨0, 1, left, true⟩], lo := [i], out := o ++ [i], steps := s + 1 + 1 + 1 + 1 + 1 } := st_at (op := 8) (arg := 0) (l := [(i, false), (1, false)]) (r := []) (t := { ar := [], cx := z16, pc := 6, st := [(i + 1, false)], fr := [⟨0, 1, left, true⟩], lo := [i], out := o ++ [i], steps := s + 1 + 1 + 1 + 1 + 1 }) (by kernel_rfl) (by kernel_rfl) (by show s + 1 + 1 + 1 + 1 < 5000; omega) (by decide) (by kernel_rfl) (by kernel_rfl) (by rw [exe_8]; exact calc_8 i 1 _ rfl (by omega) (by omega))
  have k5 : stepF (cE n) { ar := [], cx := z16, pc := 7, st := [(i + 1, false)], fr := [⟨0, 1, left, true⟩], lo := [i], out := o ++ [i], steps := s + 1 + 1 + 1 + 1 + 1 } = .go { ar := [], cx := z16, pc := 8, st := [], fr := [⟨0, 1, left, true⟩], lo := [i + 1], out := o ++ [i], steps := s + 1 + 1 + 1 + 1 + 1 + 1 } := st_at (op := 2) (arg := 0) (l := [(i + 1, false)]) (r := []) (t := { ar := [], cx := z16, pc := 7, st := [], fr := [⟨0, 1, left, true⟩], lo := [i + 1], out := o ++ [i], steps := s + 1 + 1 + 1 + 1 + 1 + 1 }) (by kernel_rfl) (by kernel_rfl) (by show s + 1 + 1 + 1 + 1 + 1 < 5000; omega) (by decide) (by kernel_rfl) (by kernel_rfl) (by kernel_rfl)
  have k6 : stepF (cE n) { ar := [], cx := z16, pc := 8, st := [], fr := [⟨0, 1, left, true⟩], lo := [i + 1], out := o ++ [i], steps := s + 1 + 1 + 1 + 1 + 1 + 1 } = .go { ar := [], cx := z16, pc := 9, st := [], fr := [], lo := [i + 1], out := o ++ [i], steps := s + 1 + 1 + 1 + 1 + 1 + 1 } := st_end (t := { ar := [], cx := z16, pc := 8, st := [], fr := [], lo := [i + 1], out := o ++ [i], steps := s + 1 + 1 + 1 + 1 + 1 + 1 }) (by kernel_rfl) (by kernel_rfl) (by kernel_rfl) (by unfold endF; show (if ((0 : Int)) ≠ 0 then _ else if true = true ∧ 1 < left then _ else _) = _; rw [if_neg (by decide), if_neg (fun h => hl h.2)]; rfl)
  rw [run_go (n := m + 6) (by show (2 : Int) < 9; decide) k0, run_go (n := m + 5) (by show (3 : Int) < 9; decide) k1, run_go (n := m + 4) (by show (4 : Int) < 9; decide) k2, run_go (n := m + 3) (by show (5 : Int) < 9; decide) k3, run_go (n := m + 2) (by show (6 : Int) < 9; decide) k4, run_go (n := m + 1) (by show (7 : Int) < 9; decide) k5, run_go (n := m + 0) (by show (8 : Int) < 9; decide) k6]
  rfl
set_option maxRecDepth 100000 in
theorem bbody_more (n l : Nat) (i s left : Int) (o : List Int) (m : Nat) (h0 : 0 ≤ i) (h1 : i ≤ 255) (hs0 : 0 ≤ s) (hs : s + 7 ≤ 5000) (ho : o.length < 65536) (hl : 1 < left) :
    runN (bE n l) (m + 7) { ar := [], cx := z16, pc := 6, st := [], fr := [⟨0, 1, left, true⟩], lo := [i], out := o, steps := s } = runN (bE n l) m { ar := [], cx := z16, pc := 2, st := [], fr := [⟨0, 1, left - 1, true⟩], lo := [i + 1], out := o ++ [i], steps := s + 7 } := by
  rw [show (s + 7 : Int) = s + 1 + 1 + 1 + 1 + 1 + 1 + 1 by omega]
  have k0 : stepF (bE n l) { ar := [], cx := z16, pc := 6, st := [], fr := [⟨0, 1, left, true⟩], lo := [i], out := o, steps := s } = .go { ar := [], cx := z16, pc := 7, st := [(i, false)], fr := [⟨0, 1, left, true⟩], lo := [i], out := o, steps := s + 1 } := st_at (op := 1) (arg := 0) (l := []) (r := []) (t := { ar := [], cx := z16, pc := 6, st := [(i, false)], fr := [⟨0, 1, left, true⟩], lo := [i], out := o, steps := s + 1 }) (by kernel_rfl) (by kernel_rfl) (by show s < 5000; omega) (by decide) (by kernel_rfl) (by kernel_rfl) (by kernel_rfl)
  have k1 : stepF (bE n l) { ar := [], cx := z16, pc := 7, st := [(i, false)], fr := [⟨0, 1, left, true⟩], lo := [i], out := o, steps := s + 1 } = .go { ar := [], cx := z16, pc := 8, st := [], fr := [⟨0, 1, left, true⟩], lo := [i], out := o ++ [i], steps := s + 1 + 1 } := st_at (op := 34) (arg := 0) (l := [(i, false)]) (r := []) (t := { ar := [], cx := z16, pc := 7, st := [], fr := [⟨0, 1, left, true⟩], lo := [i], out := o ++ [i], steps := s + 1 + 1 }) (by kernel_rfl) (by kernel_rfl) (by show s + 1 < 5000; omega) (by decide) (by kernel_rfl) (by kernel_rfl) (by show emitF i _ = _; unfold emitF; rw [if_pos ho, Int.emod_eq_of_lt h0 (by omega)])
  have k2 : stepF (bE n l) { ar := [], cx := z16, pc := 8, st := [], fr := [⟨0, 1, left, true⟩], lo := [i], out := o ++ [i], steps := s + 1 + 1 } = .go { ar := [], cx := z16, pc := 9, st := [(i, false)], fr := [⟨0, 1, left, true⟩], lo := [i], out := o ++ [i], steps := s + 1 + 1 + 1 } := st_at (op := 1) (arg := 0) (l := []) (r := []) (t := { ar := [], cx := z16, pc := 8, st := [(i, false)], fr := [⟨0, 1, left, true⟩], lo := [i], out := o ++ [i], steps := s + 1 + 1 + 1 }) (by kernel_rfl) (by kernel_rfl) (by show s + 1 + 1 < 5000; omega) (by decide) (by kernel_rfl) (by kernel_rfl) (by kernel_rfl)
  have k3 : stepF (bE n l) { ar := [], cx := z16, pc := 9, st := [(i, false)], fr := [⟨0, 1, left, true⟩], lo := [i], out := o ++ [i], steps := s + 1 + 1 + 1 } = .go { ar := [], cx := z16, pc := 10, st := [(i, false), (1, false)], fr := [⟨0, 1, left, true⟩], lo := [i], out := o ++ [i], steps := s + 1 + 1 + 1 + 1 } := st_at (op := 0) (arg := 1) (l := []) (r := [(i, false)]) (t := { ar := [], cx := z16, pc := 9, st := [(i, false), (1, false)], fr := [⟨0, 1, left, true⟩], lo := [i], out := o ++ [i], steps := s + 1 + 1 + 1 + 1 }) (by kernel_rfl) (by kernel_rfl) (by show s + 1 + 1 + 1 < 5000; omega) (by decide) (by kernel_rfl) (by kernel_rfl) (by kernel_rfl)
  have k4 : stepF (bE n l) { ar := [], cx := z16, pc := 10, st := [(i, false), (1, false)], fr := [⟨0, 1, left, true⟩], lo := [i], out := o ++ [i], steps := s + 1 + 1 + 1 + 1 } = .go { ar := [], cx := z16, pc := 11, st := [(i + 1, false)], fr := [⟨0, 1, left, true⟩], lo := [i], out := o ++ [i], steps := s + 1 + 1 + 1 + 1 + 1 } := st_at (op := 8) (arg := 0) (l := [(i, false), (1, false)]) (r := []) (t := { ar := [], cx := z16, pc := 10, st := [(i + 1, false)], fr := [⟨0, 1, left, true⟩], lo := [i], out := o ++ [i], steps := s + 1 + 1 + 1 + 1 + 1 }) (by kernel_rfl) (by kernel_rfl) (by show s + 1 + 1 + 1 + 1 < 5000; omega) (by decide) (by kernel_rfl) (by kernel_rfl) (by rw [exe_8]; exact calc_8 i 1 _ rfl (by omega) (by omega))
  have k5 : stepF (bE n l) { ar := [], cx := z16, pc := 11, st := [(i + 1, false)], fr := [⟨0, 1, left, true⟩], lo := [i], out := o ++ [i], steps := s + 1 + 1 + 1 + 1 + 1 } = .go { ar := [], cx := z16, pc := 12, st := [], fr := [⟨0, 1, left, true⟩], lo := [i + 1], out := o ++ [i], steps := s + 1 + 1 + 1 + 1 + 1 + 1 } := st_at (op := 2) (arg := 0) (l := [(i + 1, false)]) (r := []) (t := { ar := [], cx := z16, pc := 11, st := [], fr := [⟨0, 1, left, true⟩], lo := [i + 1], out := o ++ [i], steps := s + 1 + 1 + 1 + 1 + 1 + 1 }) (by kernel_rfl) (by kernel_rfl) (by show s + 1 + 1 + 1 + 1 + 1 < 5000; omega) (by decide) (by kernel_rfl) (by kernel_rfl) (by kernel_rfl)
  have k6 : stepF (bE n l) { ar := [], cx := z16, pc := 12, st := [], fr := [⟨0, 1, left, true⟩], lo := [i + 1], out := o ++ [i], steps := s + 1 + 1 + 1 + 1 + 1 + 1 } = .go { ar := [], cx := z16, pc := 2, st := [], fr := [⟨0, 1, left - 1, true⟩], lo := [i + 1], out := o ++ [i], steps := s + 1 + 1 + 1 + 1 + 1 + 1 + 1 } := st_end (t := { ar := [], cx := z16, pc := 1, st := [], fr := [⟨0, 1, left - 1, true⟩], lo := [i + 1], out := o ++ [i], steps := s + 1 + 1 + 1 + 1 + 1 + 1 + 1 }) (by kernel_rfl) (by kernel_rfl) (by kernel_rfl) (by unfold endF; show (if ((0 : Int)) ≠ 0 then _ else if true = true ∧ 1 < left then tickF _ _ else _) = _; rw [if_neg (by decide), if_pos ⟨rfl, hl⟩]; unfold tickF; rw [if_pos (by show s + 1 + 1 + 1 + 1 + 1 + 1 < 5000; omega)]; rfl)
  rw [run_go (n := m + 6) (by show (6 : Int) < 13; decide) k0, run_go (n := m + 5) (by show (7 : Int) < 13; decide) k1, run_go (n := m + 4) (by show (8 : Int) < 13; decide) k2, run_go (n := m + 3) (by show (9 : Int) < 13; decide) k3, run_go (n := m + 2) (by show (10 : Int) < 13; decide) k4, run_go (n := m + 1) (by show (11 : Int) < 13; decide) k5, run_go (n := m + 0) (by show (12 : Int) < 13; decide) k6]
  rfl
set_option maxRecDepth 100000 in
theorem bbody_last (n l : Nat) (i s left : Int) (o : List Int) (m : Nat) (h0 : 0 ≤ i) (h1 : i ≤ 255) (hs0 : 0 ≤ s) (hs : s + 7 ≤ 5000) (ho : o.length < 65536) (hl : ¬ 1 < left) :
    runN (bE n l) (m + 7) { ar := [], cx := z16, pc := 6, st := [], fr := [⟨0, 1, left, true⟩], lo := [i], out := o, steps := s } = runN (bE n l) m { ar := [], cx := z16, pc := 13, st := [], fr := [], lo := [i + 1], out := o ++ [i], steps := s + 6 } := by
  rw [show (s + 6 : Int) = s + 1 + 1 + 1 + 1 + 1 + 1 by omega]
  have k0 : stepF (bE n l) { ar := [], cx := z16, pc := 6, st := [], fr := [⟨0, 1, left, true⟩], lo := [i], out := o, steps := s } = .go { ar := [], cx := z16, pc := 7, st := [(i, false)], fr := [⟨0, 1, left, true⟩], lo := [i], out := o, steps := s + 1 } := st_at (op := 1) (arg := 0) (l := []) (r := []) (t := { ar := [], cx := z16, pc := 6, st := [(i, false)], fr := [⟨0, 1, left, true⟩], lo := [i], out := o, steps := s + 1 }) (by kernel_rfl) (by kernel_rfl) (by show s < 5000; omega) (by decide) (by kernel_rfl) (by kernel_rfl) (by kernel_rfl)
  have k1 : stepF (bE n l) { ar := [], cx := z16, pc := 7, st := [(i, false)], fr := [⟨0, 1, left, true⟩], lo := [i], out := o, steps := s + 1 } = .go { ar := [], cx := z16, pc := 8, st := [], fr := [⟨0, 1, left, true⟩], lo := [i], out := o ++ [i], steps := s + 1 + 1 } := st_at (op := 34) (arg := 0) (l := [(i, false)]) (r := []) (t := { ar := [], cx := z16, pc := 7, st := [], fr := [⟨0, 1, left, true⟩], lo := [i], out := o ++ [i], steps := s + 1 + 1 }) (by kernel_rfl) (by kernel_rfl) (by show s + 1 < 5000; omega) (by decide) (by kernel_rfl) (by kernel_rfl) (by show emitF i _ = _; unfold emitF; rw [if_pos ho, Int.emod_eq_of_lt h0 (by omega)])
  have k2 : stepF (bE n l) { ar := [], cx := z16, pc := 8, st := [], fr := [⟨0, 1, left, true⟩], lo := [i], out := o ++ [i], steps := s + 1 + 1 } = .go { ar := [], cx := z16, pc := 9, st := [(i, false)], fr := [⟨0, 1, left, true⟩], lo := [i], out := o ++ [i], steps := s + 1 + 1 + 1 } := st_at (op := 1) (arg := 0) (l := []) (r := []) (t := { ar := [], cx := z16, pc := 8, st := [(i, false)], fr := [⟨0, 1, left, true⟩], lo := [i], out := o ++ [i], steps := s + 1 + 1 + 1 }) (by kernel_rfl) (by kernel_rfl) (by show s + 1 + 1 < 5000; omega) (by decide) (by kernel_rfl) (by kernel_rfl) (by kernel_rfl)
  have k3 : stepF (bE n l) { ar := [], cx := z16, pc := 9, st := [(i, false)], fr := [⟨0, 1, left, true⟩], lo := [i], out := o ++ [i], steps := s + 1 + 1 + 1 } = .go { ar := [], cx := z16, pc := 10, st := [(i, false), (1, false)], fr := [⟨0, 1, left, true⟩], lo := [i], out := o ++ [i], steps := s + 1 + 1 + 1 + 1 } := st_at (op := 0) (arg := 1) (l := []) (r := [(i, false)]) (t := { ar := [], cx := z16, pc := 9, st := [(i, false), (1, false)], fr := [⟨0, 1, left, true⟩], lo := [i], out := o ++ [i], steps := s + 1 + 1 + 1 + 1 }) (by kernel_rfl) (by kernel_rfl) (by show s + 1 + 1 + 1 < 5000; omega) (by decide) (by kernel_rfl) (by kernel_rfl) (by kernel_rfl)
  have k4 : stepF (bE n l) { ar := [], cx := z16, pc := 10, st := [(i, false), (1, false)], fr := [⟨0, 1, left, true⟩], lo := [i], out := o ++ [i], steps := s + 1 + 1 + 1 + 1 } = .go { ar := [], cx := z16, pc := 11, st := [(i + 1, false)], fr := [⟨0, 1, left, true⟩], lo := [i], out := o ++ [i], steps := s + 1 + 1 + 1 + 1 + 1 } := st_at (op := 8) (arg := 0) (l := [(i, false), (1, false)]) (r := []) (t := { ar := [], cx := z16, pc := 10, st := [(i + 1, false)], fr := [⟨0, 1, left, true⟩], lo := [i], out := o ++ [i], steps := s + 1 + 1 + 1 + 1 + 1 }) (by kernel_rfl) (by kernel_rfl) (by show s + 1 + 1 + 1 + 1 < 5000; omega) (by decide) (by kernel_rfl) (by kernel_rfl) (by rw [exe_8]; exact calc_8 i 1 _ rfl (by omega) (by omega))
  have k5 : stepF (bE n l) { ar := [], cx := z16, pc := 11, st := [(i + 1, false)], fr := [⟨0, 1, left, true⟩], lo := [i], out := o ++ [i], steps := s + 1 + 1 + 1 + 1 + 1 } = .go { ar := [], cx := z16, pc := 12, st := [], fr := [⟨0, 1, left, true⟩], lo := [i + 1], out := o ++ [i], steps := s + 1 + 1 + 1 + 1 + 1 + 1 } := st_at (op := 2) (arg := 0) (l := [(i + 1, false)]) (r := []) (t := { ar := [], cx := z16, pc := 11, st := [], fr := [⟨0, 1, left, true⟩], lo := [i + 1], out := o ++ [i], steps := s + 1 + 1 + 1 + 1 + 1 + 1 }) (by kernel_rfl) (by kernel_rfl) (by show s + 1 + 1 + 1 + 1 + 1 < 5000; omega) (by decide) (by kernel_rfl) (by kernel_rfl) (by kernel_rfl)
  have k6 : stepF (bE n l) { ar := [], cx := z16, pc := 12, st := [], fr := [⟨0, 1, left, true⟩], lo := [i + 1], out := o ++ [i], steps := s + 1 + 1 + 1 + 1 + 1 + 1 } = .go { ar := [], cx := z16, pc := 13, st := [], fr := [], lo := [i + 1], out := o ++ [i], steps := s + 1 + 1 + 1 + 1 + 1 + 1 } := st_end (t := { ar := [], cx := z16, pc := 12, st := [], fr := [], lo := [i + 1], out := o ++ [i], steps := s + 1 + 1 + 1 + 1 + 1 + 1 }) (by kernel_rfl) (by kernel_rfl) (by kernel_rfl) (by unfold endF; show (if ((0 : Int)) ≠ 0 then _ else if true = true ∧ 1 < left then _ else _) = _; rw [if_neg (by decide), if_neg (fun h => hl h.2)]; rfl)
  rw [run_go (n := m + 6) (by show (6 : Int) < 13; decide) k0, run_go (n := m + 5) (by show (7 : Int) < 13; decide) k1, run_go (n := m + 4) (by show (8 : Int) < 13; decide) k2, run_go (n := m + 3) (by show (9 : Int) < 13; decide) k3, run_go (n := m + 2) (by show (10 : Int) < 13; decide) k4, run_go (n := m + 1) (by show (11 : Int) < 13; decide) k5, run_go (n := m + 0) (by show (12 : Int) < 13; decide) k6]
  rfl
set_option maxRecDepth 100000 in
theorem bpre_eq (n l : Nat) (i s left : Int) (o : List Int) (m : Nat) (hs0 : 0 ≤ s) (hs : s + 7 ≤ 5000) (hi : i = (l : Int)) :
    runN (bE n l) (m + 4) { ar := [], cx := z16, pc := 2, st := [], fr := [⟨0, 1, left, true⟩], lo := [i], out := o, steps := s } = runN (bE n l) m { ar := [], cx := z16, pc := 13, st := [], fr := [], lo := [i], out := o, steps := s + 4 } := by
  rw [show (s + 4 : Int) = s + 1 + 1 + 1 + 1 by omega]
  have k0 : stepF (bE n l) { ar := [], cx := z16, pc := 2, st := [], fr := [⟨0, 1, left, true⟩], lo := [i], out := o, steps := s } = .go { ar := [], cx := z16, pc := 3, st := [(i, false)], fr := [⟨0, 1, left, true⟩], lo := [i], out := o, steps := s + 1 } := st_at (op := 1) (arg := 0) (l := []) (r := []) (t := { ar := [], cx := z16, pc := 2, st := [(i, false)], fr := [⟨0, 1, left, true⟩], lo := [i], out := o, steps := s + 1 }) (by kernel_rfl) (by kernel_rfl) (by show s < 5000; omega) (by decide) (by kernel_rfl) (by kernel_rfl) (by kernel_rfl)
  have k1 : stepF (bE n l) { ar := [], cx := z16, pc := 3, st := [(i, false)], fr := [⟨0, 1, left, true⟩], lo := [i], out := o, steps := s + 1 } = .go { ar := [], cx := z16, pc := 4, st := [(i, false), ((l : Int), false)], fr := [⟨0, 1, left, true⟩], lo := [i], out := o, steps := s + 1 + 1 } := st_at (op := 0) (arg := (l : Int)) (l := []) (r := [(i, false)]) (t := { ar := [], cx := z16, pc := 3, st := [(i, false), ((l : Int), false)], fr := [⟨0, 1, left, true⟩], lo := [i], out := o, steps := s + 1 + 1 }) (by kernel_rfl) (by kernel_rfl) (by show s + 1 < 5000; omega) (by decide) (by kernel_rfl) (by kernel_rfl) (by kernel_rfl)
  have k2 : stepF (bE n l) { ar := [], cx := z16, pc := 4, st := [(i, false), ((l : Int), false)], fr := [⟨0, 1, left, true⟩], lo := [i], out := o, steps := s + 1 + 1 } = .go { ar := [], cx := z16, pc := 5, st := [(if i = (l : Int) then 1 else 0, true)], fr := [⟨0, 1, left, true⟩], lo := [i], out := o, steps := s + 1 + 1 + 1 } := st_at (op := 21) (arg := 0) (l := [(i, false), ((l : Int), false)]) (r := []) (t := { ar := [], cx := z16, pc := 4, st := [(if i = (l : Int) then 1 else 0, true)], fr := [⟨0, 1, left, true⟩], lo := [i], out := o, steps := s + 1 + 1 + 1 }) (by kernel_rfl) (by kernel_rfl) (by show s + 1 + 1 < 5000; omega) (by decide) (by kernel_rfl) (by kernel_rfl) (by rw [exe_21]; exact calc_21 i (l : Int) _ rfl)
  rw [if_pos hi] at k2
  have k3 : stepF (bE n l) { ar := [], cx := z16, pc := 5, st := [(1, true)], fr := [⟨0, 1, left, true⟩], lo := [i], out := o, steps := s + 1 + 1 + 1 } = .go { ar := [], cx := z16, pc := 13, st := [], fr := [], lo := [i], out := o, steps := s + 1 + 1 + 1 + 1 } := st_at (op := 30) (arg := 0) (l := [(1, true)]) (r := []) (t := { ar := [], cx := z16, pc := 12, st := [], fr := [], lo := [i], out := o, steps := s + 1 + 1 + 1 + 1 }) (by kernel_rfl) (by kernel_rfl) (by show s + 1 + 1 + 1 < 5000; omega) (by decide) (by kernel_rfl) (by kernel_rfl) (by kernel_rfl)
  rw [run_go (n := m + 3) (by show (2 : Int) < 13; decide) k0, run_go (n := m + 2) (by show (3 : Int) < 13; decide) k1, run_go (n := m + 1) (by show (4 : Int) < 13; decide) k2, run_go (n := m + 0) (by show (5 : Int) < 13; decide) k3]
  rfl
set_option maxRecDepth 100000 in
theorem bpre_ne (n l : Nat) (i s left : Int) (o : List Int) (m : Nat) (hs0 : 0 ≤ s) (hs : s + 7 ≤ 5000) (hi : i ≠ (l : Int)) :
    runN (bE n l) (m + 4) { ar := [], cx := z16, pc := 2, st := [], fr := [⟨0, 1, left, true⟩], lo := [i], out := o, steps := s } = runN (bE n l) m { ar := [], cx := z16, pc := 6, st := [], fr := [⟨0, 1, left, true⟩], lo := [i], out := o, steps := s + 4 } := by
  rw [show (s + 4 : Int) = s + 1 + 1 + 1 + 1 by omega]
  have k0 : stepF (bE n l) { ar := [], cx := z16, pc := 2, st := [], fr := [⟨0, 1, left, true⟩], lo := [i], out := o, steps := s } = .go { ar := [], cx := z16, pc := 3, st := [(i, false)], fr := [⟨0, 1, left, true⟩], lo := [i], out := o, steps := s + 1 } := st_at (op := 1) (arg := 0) (l := []) (r := []) (t := { ar := [], cx := z16, pc := 2, st := [(i, false)], fr := [⟨0, 1, left, true⟩], lo := [i], out := o, steps := s + 1 }) (by kernel_rfl) (by kernel_rfl) (by show s < 5000; omega) (by decide) (by kernel_rfl) (by kernel_rfl) (by kernel_rfl)
  have k1 : stepF (bE n l) { ar := [], cx := z16, pc := 3, st := [(i, false)], fr := [⟨0, 1, left, true⟩], lo := [i], out := o, steps := s + 1 } = .go { ar := [], cx := z16, pc := 4, st := [(i, false), ((l : Int), false)], fr := [⟨0, 1, left, true⟩], lo := [i], out := o, steps := s + 1 + 1 } := st_at (op := 0) (arg := (l : Int)) (l := []) (r := [(i, false)]) (t := { ar := [], cx := z16, pc := 3, st := [(i, false), ((l : Int), false)], fr := [⟨0, 1, left, true⟩], lo := [i], out := o, steps := s + 1 + 1 }) (by kernel_rfl) (by kernel_rfl) (by show s + 1 < 5000; omega) (by decide) (by kernel_rfl) (by kernel_rfl) (by kernel_rfl)
  have k2 : stepF (bE n l) { ar := [], cx := z16, pc := 4, st := [(i, false), ((l : Int), false)], fr := [⟨0, 1, left, true⟩], lo := [i], out := o, steps := s + 1 + 1 } = .go { ar := [], cx := z16, pc := 5, st := [(if i = (l : Int) then 1 else 0, true)], fr := [⟨0, 1, left, true⟩], lo := [i], out := o, steps := s + 1 + 1 + 1 } := st_at (op := 21) (arg := 0) (l := [(i, false), ((l : Int), false)]) (r := []) (t := { ar := [], cx := z16, pc := 4, st := [(if i = (l : Int) then 1 else 0, true)], fr := [⟨0, 1, left, true⟩], lo := [i], out := o, steps := s + 1 + 1 + 1 }) (by kernel_rfl) (by kernel_rfl) (by show s + 1 + 1 < 5000; omega) (by decide) (by kernel_rfl) (by kernel_rfl) (by rw [exe_21]; exact calc_21 i (l : Int) _ rfl)
  rw [if_neg hi] at k2
  have k3 : stepF (bE n l) { ar := [], cx := z16, pc := 5, st := [(0, true)], fr := [⟨0, 1, left, true⟩], lo := [i], out := o, steps := s + 1 + 1 + 1 } = .go { ar := [], cx := z16, pc := 6, st := [], fr := [⟨0, 1, left, true⟩], lo := [i], out := o, steps := s + 1 + 1 + 1 + 1 } := st_at (op := 30) (arg := 0) (l := [(0, true)]) (r := []) (t := { ar := [], cx := z16, pc := 5, st := [], fr := [⟨0, 1, left, true⟩], lo := [i], out := o, steps := s + 1 + 1 + 1 + 1 }) (by kernel_rfl) (by kernel_rfl) (by show s + 1 + 1 + 1 < 5000; omega) (by decide) (by kernel_rfl) (by kernel_rfl) (by kernel_rfl)
  rw [run_go (n := m + 3) (by show (2 : Int) < 13; decide) k0, run_go (n := m + 2) (by show (3 : Int) < 13; decide) k1, run_go (n := m + 1) (by show (4 : Int) < 13; decide) k2, run_go (n := m + 0) (by show (5 : Int) < 13; decide) k3]
  rfl
theorem cloop (n : Nat) (hn : n ≤ 255) : ∀ (j i : Nat), i + (j + 1) = n → ∃ N, runN (cE n) N { ar := [], cx := z16, pc := 2, st := [], fr := [⟨0, 1, ((j + 1 : Nat) : Int), true⟩], lo := [((i : Nat) : Int)], out := rng (i), steps := 3 + 7 * ((i : Nat) : Int) } = some (.ok ([], z16, rng n, 2 + 7 * (n : Int)))
  | 0, i, h => by
    refine ⟨(0 + 1) + 7, ?_⟩
    rw [cbody_last n 0 i _ _ _ _ (by omega) (by omega) (by omega) (by omega) (by rw [rng_len]; omega) (by simp)]
    rw [run_end (by show (9 : Int) ≤ 9; decide) rfl]
    simp only [← rng_succ]
    obtain rfl : n = i + 1 := by omega
    rw [show (3 + 7 * (i : Int) + 6) = 2 + 7 * ((i + 1 : Nat) : Int) by push_cast; omega]
  | j + 1, i, h => by
    obtain ⟨N, hN⟩ := cloop n hn j (i + 1) (by omega)
    refine ⟨N + 7, ?_⟩
    rw [cbody_more n 0 i _ _ _ _ (by omega) (by omega) (by omega) (by omega) (by rw [rng_len]; omega) (by push_cast; omega)]
    rw [← rng_succ]
    rw [show (((j + 1 + 1 : Nat) : Int) - 1) = ((j + 1 : Nat) : Int) by push_cast; omega, show (i : Int) + 1 = ((i + 1 : Nat) : Int) by push_cast; rfl, show (3 + 7 * (i : Int) + 7) = 3 + 7 * ((i + 1 : Nat) : Int) by push_cast; omega]
    exact hN
def cutE (n l : Nat) : Out := .ok ([], z16, rng (min n l), 2 + 11 * ((min n l : Nat) : Int) + (if l < n then 5 else 0))
theorem bloop (n l : Nat) (hn : n ≤ 255) : ∀ (j i : Nat), i + (j + 1) = n → i ≤ l → ∃ N, runN (bE n l) N { ar := [], cx := z16, pc := 2, st := [], fr := [⟨0, 1, ((j + 1 : Nat) : Int), true⟩], lo := [((i : Nat) : Int)], out := rng (i), steps := 3 + 11 * ((i : Nat) : Int) } = some (cutE n l)
  | j, i, h, hil => by
    by_cases he : i = l
    · refine ⟨(0 + 1) + 4, ?_⟩
      rw [bpre_eq n l i _ _ _ _ (by omega) (by omega) (by rw [he])]
      rw [run_end (by show (13 : Int) ≤ 13; decide) rfl]
      unfold cutE
      rw [if_pos (by omega), show min n l = i by omega]
      simp only
      rw [show (3 + 11 * (i : Int) + 4) = 2 + 11 * (i : Int) + 5 by omega]
    · match j, h with
      | 0, h =>
        refine ⟨((0 + 1) + 7) + 4, ?_⟩
        rw [bpre_ne n l i _ _ _ _ (by omega) (by omega) (by omega)]
        rw [bbody_last n l i _ _ _ _ (by omega) (by omega) (by omega) (by omega) (by rw [rng_len]; omega) (by simp)]
        rw [run_end (by show (13 : Int) ≤ 13; decide) rfl]
        unfold cutE
        rw [if_neg (by omega), show min n l = i + 1 by omega]
        simp only [← rng_succ]
        rw [show (3 + 11 * (i : Int) + 4 + 6) = 2 + 11 * ((i + 1 : Nat) : Int) + 0 by push_cast; omega]
      | j + 1, h =>
        obtain ⟨N, hN⟩ := bloop n l hn j (i + 1) (by omega) (by omega)
        refine ⟨(N + 7) + 4, ?_⟩
        rw [bpre_ne n l i _ _ _ _ (by omega) (by omega) (by omega)]
        rw [bbody_more n l i _ _ _ _ (by omega) (by omega) (by omega) (by omega) (by rw [rng_len]; omega) (by push_cast; omega)]
        rw [← rng_succ]
        rw [show (((j + 1 + 1 : Nat) : Int) - 1) = ((j + 1 : Nat) : Int) by push_cast; omega, show (i : Int) + 1 = ((i + 1 : Nat) : Int) by push_cast; rfl, show (3 + 11 * (i : Int) + 4 + 7) = 3 + 11 * ((i + 1 : Nat) : Int) by push_cast; omega]
        exact hN
theorem cstart (n : Nat) (hn : n ≤ 255) : ∃ N, runN (cE n) N (startS (cE n) [] z16) = some (.ok ([], z16, rng n, 2 + 7 * (n : Int))) := by
  have h1 : stepF (cE n) (startS (cE n) [] z16) = .go { ar := [], cx := z16, pc := 1, st := [((n : Int), false)], fr := [], lo := [0], out := [], steps := 1 } := by kernel_rfl
  by_cases h0 : n = 0
  · subst h0
    refine ⟨1 + 1 + 1, ?_⟩
    kernel_rfl
  · obtain ⟨j, rfl⟩ : ∃ j, n = j + 1 := ⟨n - 1, by omega⟩
    obtain ⟨N, hN⟩ := cloop (j + 1) hn j 0 (by omega)
    refine ⟨N + 1 + 1, ?_⟩
    have h2 : stepF (cE (j + 1)) { ar := [], cx := z16, pc := 1, st := [(((j + 1 : Nat) : Int), false)], fr := [], lo := [0], out := [], steps := 1 } = .go { ar := [], cx := z16, pc := 2, st := [], fr := [⟨0, 1, ((j + 1 : Nat) : Int), true⟩], lo := [0], out := [], steps := 3 } := st_at (op := 29) (arg := 0) (l := [(((j + 1 : Nat) : Int), false)]) (r := []) (t := { ar := [], cx := z16, pc := 1, st := [], fr := [⟨0, 1, ((j + 1 : Nat) : Int), true⟩], lo := [0], out := [], steps := 3 }) (by kernel_rfl) (by kernel_rfl) (by show (1 : Int) < 5000; decide) (by decide) (by kernel_rfl) (by kernel_rfl) (by show loopF _ ((j + 1 : Nat) : Int) _ = _; unfold loopF; rw [if_neg (by omega), if_neg (by omega), if_neg (by show ¬ 8 ≤ 0; decide)]; unfold tickF; rw [if_pos (by show (2 : Int) < 5000; decide)]; rfl)
    rw [run_go (by show (0 : Int) < 9; decide) h1, run_go (by show (1 : Int) < 9; decide) h2]
    exact hN
theorem bstart (n l : Nat) (hn : n ≤ 255) : ∃ N, runN (bE n l) N (startS (bE n l) [] z16) = some (cutE n l) := by
  have h1 : stepF (bE n l) (startS (bE n l) [] z16) = .go { ar := [], cx := z16, pc := 1, st := [((n : Int), false)], fr := [], lo := [0], out := [], steps := 1 } := by kernel_rfl
  by_cases h0 : n = 0
  · subst h0
    refine ⟨1 + 1 + 1, ?_⟩
    kernel_rfl
  · obtain ⟨j, rfl⟩ : ∃ j, n = j + 1 := ⟨n - 1, by omega⟩
    obtain ⟨N, hN⟩ := bloop (j + 1) l hn j 0 (by omega) (by omega)
    refine ⟨N + 1 + 1, ?_⟩
    have h2 : stepF (bE (j + 1) l) { ar := [], cx := z16, pc := 1, st := [(((j + 1 : Nat) : Int), false)], fr := [], lo := [0], out := [], steps := 1 } = .go { ar := [], cx := z16, pc := 2, st := [], fr := [⟨0, 1, ((j + 1 : Nat) : Int), true⟩], lo := [0], out := [], steps := 3 } := st_at (op := 29) (arg := 0) (l := [(((j + 1 : Nat) : Int), false)]) (r := []) (t := { ar := [], cx := z16, pc := 1, st := [], fr := [⟨0, 1, ((j + 1 : Nat) : Int), true⟩], lo := [0], out := [], steps := 3 }) (by kernel_rfl) (by kernel_rfl) (by show (1 : Int) < 5000; decide) (by decide) (by kernel_rfl) (by kernel_rfl) (by show loopF _ ((j + 1 : Nat) : Int) _ = _; unfold loopF; rw [if_neg (by omega), if_neg (by omega), if_neg (by show ¬ 8 ≤ 0; decide)]; unfold tickF; rw [if_pos (by show (2 : Int) < 5000; decide)]; rfl)
    rw [run_go (by show (0 : Int) < 13; decide) h1, run_go (by show (1 : Int) < 13; decide) h2]
    exact hN
theorem pair_cnt (n : Int) : pairR (cntC n) = ([-1, 8, -1, -1, -1, -1, -1, -1, 1], 0) := by kernel_rfl
theorem pair_br (n l : Int) : pairR (brC n l) = ([-1, 12, -1, -1, -1, 12, -1, -1, -1, -1, -1, -1, 1], 0) := by kernel_rfl
theorem form_cntn (n : Int) (h : n ≤ 4294967295) : formE [] 1 (cntC n) = 0 := by
  have e := chk_push h
  refine form_code (by decide) (by decide) (by simp [cntC]) ?_
  show (if chkI 0 n ≠ 0 then chkI 0 n else codE [(29, 0), (1, 0), (34, 0), (1, 0), (0, 1), (8, 0), (2, 0), (31, 0)]) = 0
  rw [e]
  kernel_rfl
theorem form_br (n l : Int) (h : n ≤ 4294967295) (h' : l ≤ 4294967295) : formE [] 1 (brC n l) = 0 := by
  have e := chk_push h
  have e' := chk_push h'
  refine form_code (by decide) (by decide) (by simp [brC]) ?_
  show (if chkI 0 n ≠ 0 then chkI 0 n else if chkI 29 0 ≠ 0 then chkI 29 0 else if chkI 1 0 ≠ 0 then chkI 1 0 else if chkI 0 l ≠ 0 then chkI 0 l else codE [(21, 0), (30, 0), (1, 0), (34, 0), (1, 0), (0, 1), (8, 0), (2, 0), (31, 0)]) = 0
  rw [e, e']
  kernel_rfl
theorem oki_cntn {n : Int} (h0 : 0 ≤ n) (h1 : n ≤ 4294967295) : OkI (cntC n) := by
  intro x hx
  simp only [cntC, List.mem_cons, List.not_mem_nil, or_false] at hx
  rcases hx with rfl | rfl | rfl | rfl | rfl | rfl | rfl | rfl | rfl <;> exact ⟨by simp, by first | exact h0 | decide, by first | exact h1 | decide⟩
theorem oki_br {n l : Int} (h0 : 0 ≤ n) (h1 : n ≤ 4294967295) (k0 : 0 ≤ l) (k1 : l ≤ 4294967295) : OkI (brC n l) := by
  intro x hx
  simp only [brC, List.mem_cons, List.not_mem_nil, or_false] at hx
  rcases hx with rfl | rfl | rfl | rfl | rfl | rfl | rfl | rfl | rfl | rfl | rfl | rfl | rfl <;> exact ⟨by simp, by first | exact h0 | exact k0 | decide, by first | exact h1 | exact k1 | decide⟩
/-- Feed without data is one run. -/
theorem feed_one {L : Int} {C : List (Int × Int)} {P : List Int} {N : Nat} {ar : List (List Int)} {cx out : List Int} {st : Int} (hC : OkI C) (hf : formE [] L C = 0) (hp : pairR C = (P, 0))
    (h : runN { A := [], L := L, C := C, P := P, inp := 0, ended := true, fuel := 5000 } N (startS { A := [], L := L, C := C, P := P, inp := 0, ended := true, fuel := 5000 } [] z16) = some (.ok (ar, cx, out, st))) (hl : out.length ≤ 65536) :
    feedR [] L C [] 5000 = .ok (ar, cx, out, st) := by
  have hr := runR_of hC hf hp ⟨by decide, by decide⟩ (by decide) (by decide) h
  unfold feedR
  rw [if_neg (by rw [(use_of hf hp).1]; decide), if_neg (by decide), if_pos ⟨by decide, by decide⟩]
  show feedF [] L C [] 5000 1 0 [] z16 [] 0 = _
  unfold feedF
  rw [show (if 0 < ([] : List Int).length then ([] : List Int).getD 0 0 else 0) = 0 from rfl, show decide (0 = ([] : List Int).length) = true from rfl, show (5000 : Int) - 0 = 5000 from rfl, hr]
  simp only [List.nil_append]
  rw [if_neg (by omega)]
  unfold feedF
  rw [Int.zero_add]
theorem cnt_feed (n : Nat) (hn : n ≤ 255) : feedR [] 1 (cntC n) [] 5000 = .ok ([], z16, rng n, 2 + 7 * (n : Int)) := by
  obtain ⟨N, hN⟩ := cstart n hn
  exact feed_one (oki_cntn (by omega) (by omega)) (form_cntn n (by omega)) (pair_cnt n) hN (by rw [rng_len]; omega)
theorem br_feed (n l : Nat) (hn : n ≤ 255) (hl : l ≤ 255) : feedR [] 1 (brC n l) [] 5000 = cutE n l := by
  obtain ⟨N, hN⟩ := bstart n l hn
  exact feed_one (oki_br (by omega) (by omega) (by omega) (by omega)) (form_br n l (by omega) (by omega)) (pair_br n l) hN (by rw [rng_len]; omega)
end Go.Proofs.YtgjjklajipekdaaGreat
