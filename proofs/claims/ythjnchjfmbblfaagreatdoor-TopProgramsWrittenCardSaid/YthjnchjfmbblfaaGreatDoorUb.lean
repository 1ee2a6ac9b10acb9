/- The chapter's examples (layer 15). -/
import Derived.Test.YthjnchjfmbblfaaGreatDoorKg
import Derived.Test.YthjnchjfmbblfaaGreatDoorJv
import Derived.Test.YthjnchjfmbblfaaGreatDoorJq
import Derived.Test.YthjnchjfmbblfaaGreatDoorIb
import Derived.Test.YthjnchjfmbblfaaGreatDoorRk
import Derived.Outline
import Derived.Test.YthjnchjfmbblfaaGreatDoorUa
namespace Go.Proofs.YthjnchjfmbblfaaGreatDoor
open Go.RowKit
set_option linter.unusedVariables false
attribute [local go_sem ↓] Go.wp_at_zero Go.wp_at_succ
def exA : List (Bool × Int) := [(false, 4)]
def exC : List (Int × Int) := [(0, 5), (2, 0), (32, 0), (34, 0)]
def ExPost (w : World) (x : Ending) (w' : World) : Prop := ∃ vA vC, x = .returned (.agg #[vA, .int .i64 1, vC]) ∧ Arr w' vA exA ∧ Cod w' vC exC ∧ Ext w w'
theorem enc_ex : encF exA 1 exC = (0, [1, 8, 1, 4, 0, 5, 2, 0, 32, 34]) := by decide +kernel
theorem dec_ex : (decF [1, 8, 1, 4, 0, 5, 2, 0, 32, 34, 7]).e = 0 ∧ (decF [1, 8, 1, 4, 0, 5, 2, 0, 32, 34, 7]).A = exA ∧ (decF [1, 8, 1, 4, 0, 5, 2, 0, 32, 34, 7]).L = 1 ∧ (decF [1, 8, 1, 4, 0, 5, 2, 0, 32, 34, 7]).C = exC ∧ (decF [1, 8, 1, 4, 0, 5, 2, 0, 32, 34, 7]).r = [7] := by decide +kernel
theorem dec_ex2 : decF [1, 8, 1, 4, 0, 5, 2, 0, 32, 34, 7] = ⟨0, exA, 1, exC, [7]⟩ := by
  obtain ⟨h1, h2, h3, h4, h5⟩ := dec_ex
  generalize decF [1, 8, 1, 4, 0, 5, 2, 0, 32, 34, 7] = D at *
  cases D
  simp_all
theorem rd_of_blk {w : World} {b n sz : Nat} {T : TypeId} {cs : List Value} (h : Blk w b T cs) (hl : cs.length = n * sz) (hn : n ≤ 1000) : Rd w sz (.slice (some ⟨b, 0, none⟩) n n) n cs := by
  refine ⟨hl, _, _, rfl, Nat.le_refl _, by unfold maxLen; omega, (fun e => by cases e), fun _ => ⟨b, 0, rfl, h.lt, fun j hj => ?_⟩⟩
  rw [Nat.zero_add]
  exact h.cell j _ (by simp [List.getD, List.getElem?_eq_getElem hj])
theorem blk_newAt (w : World) (cs : List Value) (t : TypeId) (b : Nat) (hb : w.heap.size = b) : Blk (w.alloc (.cells cs.toArray t)) b t cs := hb ▸ Blk.new w cs t
theorem by_ex : Bytes [1, 8, 1, 4, 0, 5, 2, 0, 32, 34, 7] := by intro x hx; simp at hx; omega

end Go.Proofs.YthjnchjfmbblfaaGreatDoor

/- Find, InstructionNames. -/
namespace Go.Proofs.YthjnchjfmbblfaaGreatDoor
open Go.RowKit
set_option linter.unusedVariables false
attribute [local go_sem ↓] Go.wp_at_zero Go.wp_at_succ

/-- The first operation with a name, from one on: n operations are looked at. -/
def fnd (s : ByteArray) : Nat → Nat → Option Nat
  | _, 0 => none
  | k, n + 1 => if (opAt (k : Int)).1.toList = s.toList then some k else fnd s (k + 1) n
def fndV (s : ByteArray) : Int × Bool := match fnd s 0 36 with
  | some k => ((k : Int), true)
  | none => (0, false)
theorem isop_lt (k : Nat) (h : k < 36) : isOp (k : Int) = true := decide_eq_true (by omega)

theorem fnd_hit (s : ByteArray) (k n : Nat) (h : (opAt (k : Int)).1.toList = s.toList) : fnd s k (n + 1) = some k := if_pos h
theorem fnd_miss (s : ByteArray) (k n : Nat) (h : ¬ (opAt (k : Int)).1.toList = s.toList) : fnd s k (n + 1) = fnd s (k + 1) n := if_neg h
theorem fnd_snoc (s : ByteArray) (n : Nat) : ∀ k, (fnd s k (n + 1)).isSome = ((fnd s k n).isSome || (opAt ((k + n : Nat) : Int)).1.toList == s.toList) := by
  induction n with
  | zero =>
    intro k
    by_cases h : (opAt (k : Int)).1.toList = s.toList
    · rw [fnd_hit s k 0 h]; simp [fnd, h]
    · rw [fnd_miss s k 0 h]; simp [fnd, h]
  | succ n ih =>
    intro k
    by_cases h : (opAt (k : Int)).1.toList = s.toList
    · rw [fnd_hit s k _ h, fnd_hit s k _ h]; rfl
    · rw [fnd_miss s k _ h, fnd_miss s k n h, ih (k + 1), show k + 1 + n = k + (n + 1) by omega]
theorem fnd_tab : (List.range 36).all (fun k => fnd (opAt (k : Int)).1 0 36 == some k && !(opAt (k : Int)).1.toList.isEmpty) = true := by decide +kernel

set_option maxHeartbeats 4000000 in
set_option maxRecDepth 100000 in
theorem find_any (s : ByteArray) (w : World) : Calls Tryz.prog 55 #[.string s] w fun x w' => x = .returned (.tuple #[.int .i64 (fndV s).1, .bool (fndV s).2]) ∧ Ext w w' := by
  have hop := operations_any
  replace hop := hidden hop
  have hix := index_ops
  replace hix := hidden hix
  go_enter Tryz.func55, Tryz.ntmps55
  go_wp2_with fail
  refine (hop.out _).mono ?_
  rintro e w1 ⟨rfl, g1⟩
  go_wp2_with fail
  go_loopw [7] (fun i wr => ∃ k : Nat, k ≤ 36 ∧ i = .int .i64 (k : Int) ∧ Hid (fnd s 0 36 = fnd s k (36 - k)) ∧ Ext w wr) (fun i _ => 36 - (intOf i).toNat)
  case atStart => exact ⟨0, by omega, rfl, rfl, g1⟩
  case round =>
    clear g1
    obtain ⟨k, hk, rfl, hf, X⟩ := hrel
    by_cases hlt : k < 36
    · have hixk := hix.out (k : Int) (by omega) (by omega)
      have hhit := fnd_hit s k (36 - k - 1)
      have hmiss := fnd_miss s k (36 - k - 1)
      rw [show 36 - k - 1 + 1 = 36 - k by omega] at hhit hmiss
      obtain ⟨TT, hTT⟩ : ∃ T, opAt (k : Int) = T := ⟨_, rfl⟩
      rw [hTT] at hhit hmiss
      simp only [hTT] at hixk
      obtain ⟨t0, t1, t2, t3, t4⟩ := TT
      simp only at hhit hmiss hixk
      replace hhit := hidden hhit
      replace hmiss := hidden hmiss
      replace hTT := hidden hTT
      by_cases he : t0.toList = s.toList
      · have he1 : (t0.toList == s.toList) = true := by simp [he]
        have hV : Hid (fndV s = ((k : Int), true)) := by show _ = _; unfold fndV; rw [hf.out, hhit.out he]
        clear he
        go_wp2_with fail
        go_ret2
        exact ⟨by rw [hV.out]; rfl, X.alloc _⟩
      · have he1 : (t0.toList == s.toList) = false := by simp [he]
        have hm2 := hidden (hmiss.out he)
        clear he
        go_wp2_with fail
        go_roundw
        case rel => exact ⟨k + 1, by omega, by go_num, by show _ = _; rw [hf.out, hm2.out, show 36 - k - 1 = 36 - (k + 1) by omega], X.alloc _⟩
        case measure => simp [intOf]; omega
    · obtain rfl : k = 36 := by omega
      have hV : Hid (fndV s = (0, false)) := by show _ = _; unfold fndV; rw [hf.out]; rfl
      go_wp2_with fail
      go_ret2
      exact ⟨by rw [hV.out]; rfl, X⟩

end Go.Proofs.YthjnchjfmbblfaaGreatDoor

/- The assembler, plain: numbers, names, the reader's state and its steps. -/
namespace Go.Proofs.YthjnchjfmbblfaaGreatDoor.Src
open Go.Lib
set_option linter.unusedVariables false

def isDig (c : UInt8) : Bool := 48 ≤ c && c ≤ 57
def isHex (c : UInt8) : Bool := isDig c || (97 ≤ c && c ≤ 102)
def isLet (c : UInt8) : Bool := 97 ≤ c && c ≤ 122
def isNm (c : UInt8) : Bool := isLet c || isDig c || c == 95
/-- The value of decimal, of hexadecimal digits. -/
def decV (l : List UInt8) : Nat := l.foldl (fun a c => a * 10 + (c.toNat - 48)) 0
def hexV (l : List UInt8) : Nat := l.foldl (fun a c => a * 16 + (if isDig c then c.toNat - 48 else c.toNat - 87)) 0
/-- The number that a word is, if it is one. -/
def numF (s : List UInt8) : Option Nat :=
  if s.take 2 = [48, 120] ∧ s.drop 2 ≠ [] then (if 8 < (s.drop 2).length ∨ (s.drop 2).all isHex = false then none else some (hexV (s.drop 2)))
  else if s = [] ∨ 10 < s.length ∨ (1 < s.length ∧ s.head? = some 48) ∨ s.all isDig = false then none
  else if decV s ≤ 4294967295 then some (decV s) else none

/-- The words that begin a declaration: bytes, words, local, const. -/
def dBytes : List UInt8 := [98, 121, 116, 101, 115]
def dWords : List UInt8 := [119, 111, 114, 100, 115]
def dLocal : List UInt8 := [108, 111, 99, 97, 108]
def dConst : List UInt8 := [99, 111, 110, 115, 116]
def isDecl (w : List UInt8) : Bool := w == dBytes || w == dWords || w == dLocal || w == dConst
def findW (w : List UInt8) : Int × Bool := fndV ⟨w.toArray⟩
def nameOk (w : List UInt8) : Bool := w != [] && decide (w.length ≤ 32) && (w.take 1).all isLet && w.all isNm && !isDecl w && !(findW w).2

/-- The reader: the words to come, the names of arrays and locals, the constants, the arrays and the code. -/
structure RS where
  ws : List (List UInt8 × Nat)
  arr : List (List UInt8)
  loc : List (List UInt8)
  con : List (List UInt8 × Nat)
  A : List (Bool × Int)
  C : List (Int × Int)
abbrev RE (α : Type) := Except (Nat × Int) α
def nextF (e : Nat) (s : RS) : (List UInt8 × Nat) × RS := match s.ws with
  | [] => (([], e), s)
  | w :: r => (w, { s with ws := r })
def nameF (e : Nat) (s : RS) : RE ((List UInt8 × Nat) × RS) := if nameOk (nextF e s).1.1 then .ok (nextF e s) else .error ((nextF e s).1.2, 4)
def conF (l : List (List UInt8 × Nat)) (w : List UInt8) : Option Nat := (l.find? (·.1 == w)).map (·.2)
def freshF (e : Nat) (s : RS) : RE ((List UInt8 × Nat) × RS) := match nameF e s with
  | .error x => .error x
  | .ok (w, s') => if (conF s'.con w.1).isSome ∨ w.1 ∈ s'.arr ∨ w.1 ∈ s'.loc then .error (w.2, 8) else .ok (w, s')
def indexF (e : Nat) (l : List (List UInt8)) (s : RS) : RE (Nat × RS) := match nameF e s with
  | .error x => .error x
  | .ok (w, s') => if w.1 ∈ l then .ok (l.idxOf w.1, s') else .error (w.2, 7)
def valueF (e : Nat) (s : RS) : RE ((Nat × Nat) × RS) :=
  match s.ws.head?.bind fun w => numF w.1 with
  | some n => .ok ((n, (nextF e s).1.2), (nextF e s).2)
  | none => match nameF e s with
    | .error x => .error x
    | .ok (w, s') => match conF s'.con w.1 with
      | some n => .ok ((n, w.2), s')
      | none => .error (w.2, 7)
def sumA (A : List (Bool × Int)) : Int := (A.map (·.2)).sum
def arrayF (e : Nat) (wide : Bool) (s : RS) : RE RS := match freshF e s with
  | .error x => .error x
  | .ok (w, s1) => if 8 ≤ s1.arr.length then .error (w.2, 6) else match valueF e s1 with
    | .error x => .error x
    | .ok ((n, at_), s2) => if 0 < n ∧ (n : Int) + sumA s2.A ≤ 65536 then .ok { s2 with arr := s2.arr ++ [w.1], A := s2.A ++ [(wide, (n : Int))] } else .error (at_, 2)
def localF (e : Nat) (s : RS) : RE RS := match freshF e s with
  | .error x => .error x
  | .ok (w, s1) => if 16 ≤ s1.loc.length then .error (w.2, 6) else .ok { s1 with loc := s1.loc ++ [w.1] }
def constF (e : Nat) (s : RS) : RE RS := match freshF e s with
  | .error x => .error x
  | .ok (w, s1) => match valueF e s1 with
    | .error x => .error x
    | .ok ((n, _), s2) => .ok { s2 with con := (w.1, n) :: s2.con }
def argF (e : Nat) (op : Int) (s : RS) : RE (Nat × RS) :=
  if op = 0 then (match valueF e s with
    | .error x => .error x
    | .ok ((n, _), s') => .ok (n, s'))
  else if op = 35 then (match valueF e s with
    | .error x => .error x
    | .ok ((n, at_), s') => if n < 16 then .ok (n, s') else .error (at_, 2))
  else if op = 1 ∨ op = 2 then indexF e s.loc s
  else if op = 3 ∨ op = 4 then indexF e s.arr s
  else .ok (0, s)
def instrF (e : Nat) (w : List UInt8 × Nat) (s : RS) : RE RS :=
  if (findW w.1).2 = false then .error (w.2, 4) else if 1024 ≤ s.C.length then .error (w.2, 6) else match argF e (findW w.1).1 s with
  | .error x => .error x
  | .ok (n, s') => .ok { s' with C := s'.C ++ [((findW w.1).1, (n : Int))] }
def stepF (e : Nat) (w : List UInt8 × Nat) (s : RS) : RE RS :=
  if w.1 = dBytes then arrayF e false s else if w.1 = dWords then arrayF e true s else if w.1 = dLocal then localF e s else if w.1 = dConst then constF e s else instrF e w s
/-- The loop over the words; the number of words is fuel enough. -/
def loopF (e : Nat) : Nat → RS → RE RS
  | 0, s => .ok s
  | n + 1, s => match s.ws with
    | [] => .ok s
    | w :: r => match stepF e w { s with ws := r } with
      | .error x => .error x
      | .ok s' => loopF e n s'
def rs0 (ws : List (List UInt8 × Nat)) : RS := ⟨ws, [], [], [], [], []⟩
/-- What read says of a text. -/
def readF (src : List UInt8) : RE RS := if 8192 < src.length then .error (0, 5) else loopF src.length (wds src 0).length (rs0 (wds src 0))

/-! A printed number is read again. -/
theorem dd_lt {n : Nat} (h : n < 10) : decDigits n = [UInt8.ofNat (48 + n)] := by rw [decDigits, dif_pos h]
theorem dd_ge {n : Nat} (h : ¬ n < 10) : decDigits n = decDigits (n / 10) ++ [UInt8.ofNat (48 + n % 10)] := by rw [decDigits, dif_neg h]
theorem dig_tab : (List.range 10).all (fun k => isDig (UInt8.ofNat (48 + k)) && decide ((UInt8.ofNat (48 + k)).toNat = 48 + k) && decide (UInt8.ofNat (48 + k) = 48 ↔ k = 0)) = true := by decide +kernel
theorem dig_at {k : Nat} (h : k < 10) : isDig (UInt8.ofNat (48 + k)) = true ∧ (UInt8.ofNat (48 + k)).toNat = 48 + k ∧ (UInt8.ofNat (48 + k) = 48 ↔ k = 0) := by
  have := List.all_eq_true.1 dig_tab k (List.mem_range.2 h)
  simp only [Bool.and_eq_true, decide_eq_true_eq] at this
  exact ⟨this.1.1, this.1.2, this.2⟩
theorem dd_digs (n : Nat) : (decDigits n).all isDig = true := by
  induction n using Nat.strongRecOn with
  | ind n ih =>
    by_cases h : n < 10
    · rw [dd_lt h, List.all_cons, (dig_at h).1]; rfl
    · rw [dd_ge h, List.all_append, ih (n / 10) (by omega), List.all_cons, (dig_at (show n % 10 < 10 by omega)).1]; rfl
theorem decV_snoc (l : List UInt8) (c : UInt8) : decV (l ++ [c]) = decV l * 10 + (c.toNat - 48) := by simp [decV, List.foldl_append]
theorem dd_val (n : Nat) : decV (decDigits n) = n := by
  induction n using Nat.strongRecOn with
  | ind n ih =>
    by_cases h : n < 10
    · rw [dd_lt h]
      simp only [decV, List.foldl_cons, List.foldl_nil, (dig_at h).2.1]
      omega
    · rw [dd_ge h, decV_snoc, ih (n / 10) (by omega), (dig_at (show n % 10 < 10 by omega)).2.1]
      omega
theorem dd_ne (n : Nat) : decDigits n ≠ [] := by
  by_cases h : n < 10
  · rw [dd_lt h]; simp
  · rw [dd_ge h]; simp
theorem dd_head (n : Nat) (hn : 0 < n) : (decDigits n).head? ≠ some 48 := by
  induction n using Nat.strongRecOn with
  | ind n ih =>
    by_cases h : n < 10
    · rw [dd_lt h]
      intro e
      have := (dig_at h).2.2.1 (Option.some.inj e)
      omega
    · rw [dd_ge h]
      have h0 := dd_ne (n / 10)
      have h1 := ih (n / 10) (by omega) (by omega)
      cases hd : decDigits (n / 10) with
      | nil => exact absurd hd h0
      | cons c r => rw [hd] at h1; exact h1
theorem dd_len (k : Nat) : ∀ n, n < 10 ^ (k + 1) → (decDigits n).length ≤ k + 1 := by
  induction k with
  | zero => intro n h; rw [dd_lt (by simpa using h)]; simp
  | succ k ih =>
    intro n h
    by_cases h9 : n < 10
    · rw [dd_lt h9]; simp
    · rw [dd_ge h9, List.length_append]
      have := ih (n / 10) (by rw [Nat.pow_succ] at h; omega)
      simp only [List.length_cons, List.length_nil]
      omega
theorem num_dd (n : Nat) (hn : n ≤ 4294967295) : numF (decDigits n) = some n := by
  have h1 : ¬ ((decDigits n).take 2 = [48, 120] ∧ (decDigits n).drop 2 ≠ []) := by
    rintro ⟨h, -⟩
    have hm : (120 : UInt8) ∈ decDigits n := List.mem_of_mem_take (show (120 : UInt8) ∈ (decDigits n).take 2 by rw [h]; simp)
    exact absurd (List.all_eq_true.1 (dd_digs n) _ hm) (by decide)
  have h2 : ¬ (decDigits n = [] ∨ 10 < (decDigits n).length ∨ (1 < (decDigits n).length ∧ (decDigits n).head? = some 48) ∨ (decDigits n).all isDig = false) := by
    rintro (h | h | ⟨h, h'⟩ | h)
    · exact dd_ne n h
    · have := dd_len 9 n (by omega); omega
    · rcases Nat.eq_zero_or_pos n with rfl | hp
      · rw [dd_lt (by decide)] at h; simp at h
      · exact dd_head n hp h'
    · rw [dd_digs] at h; cases h
  rw [numF, if_neg h1, if_neg h2, dd_val, if_pos hn]
end Go.Proofs.YthjnchjfmbblfaaGreatDoor.Src
