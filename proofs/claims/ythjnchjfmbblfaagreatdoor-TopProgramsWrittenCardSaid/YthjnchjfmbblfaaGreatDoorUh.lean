/- Printing, plain; what is printed is read again (the words). -/
import Derived.Test.YthjnchjfmbblfaaGreatDoorUb
import Derived.Test.YthjnchjfmbblfaaGreatDoorUj
namespace Go.Proofs.YthjnchjfmbblfaaGreatDoor.Src
open Go.Lib
set_option linter.unusedVariables false

def nmE (c : UInt8) (i : Nat) : List UInt8 := c :: (if i < 10 then [UInt8.ofNat (48 + i)] else [49, UInt8.ofNat (38 + i)])
theorem dd16 (i : Nat) (h : i < 16) : decDigits i = (if i < 10 then [UInt8.ofNat (48 + i)] else [49, UInt8.ofNat (38 + i)]) := by
  by_cases h9 : i < 10
  · rw [dd_lt h9, if_pos h9]
  · rw [dd_ge h9, dd_lt (by omega), if_neg h9, show i / 10 = 1 by omega, show 48 + i % 10 = 38 + i by omega]
    rfl
/-- The names of printed arrays and locals. -/
def aN (i : Nat) : List UInt8 := 97 :: decDigits i
def lN (i : Nat) : List UInt8 := 108 :: decDigits i
theorem nm_tab : (List.range 16).all (fun i => nameOk (nmE 97 i) && nameOk (nmE 108 i) && (numF (nmE 97 i)).isNone && (numF (nmE 108 i)).isNone) = true := by decide +kernel
theorem nm_at {i : Nat} (h : i < 16) : nameOk (aN i) = true ∧ nameOk (lN i) = true := by
  have := List.all_eq_true.1 nm_tab i (List.mem_range.2 h)
  simp only [Bool.and_eq_true] at this
  unfold aN lN
  rw [dd16 i h]
  exact ⟨this.1.1.1, this.1.1.2⟩
theorem aN_inj {i j : Nat} (h : aN i = aN j) : i = j := by
  have := congrArg decV (List.cons.inj h).2
  rwa [dd_val, dd_val] at this
theorem lN_inj {i j : Nat} (h : lN i = lN j) : i = j := by
  have := congrArg decV (List.cons.inj h).2
  rwa [dd_val, dd_val] at this
theorem al_ne (i j : Nat) : aN i ≠ lN j := fun h => absurd (List.cons.inj h).1 (by decide)
theorem idx_map (f : Nat → List UInt8) (hf : ∀ i j, f i = f j → i = j) (n : Nat) : ∀ s i, i < n → ((List.range' s n).map f).idxOf (f (s + i)) = i := by
  induction n with
  | zero => intro s i h; omega
  | succ n ih =>
    intro s i h
    rw [List.range'_succ, List.map_cons]
    cases i with
    | zero => simp
    | succ i =>
      have hne : ¬ (f s == f (s + (i + 1))) = true := by
        intro he
        have := hf _ _ (by simpa using he)
        omega
      have hne' : (f s == f (s + (i + 1))) = false := Bool.eq_false_iff.2 hne
      rw [List.idxOf_cons, hne']
      rw [show s + (i + 1) = s + 1 + i by omega, ih (s + 1) i (by omega)]
      rfl
theorem idx_range (f : Nat → List UInt8) (hf : ∀ i j, f i = f j → i = j) (n i : Nat) (h : i < n) : ((List.range n).map f).idxOf (f i) = i := by
  have := idx_map f hf n 0 i h
  rwa [Nat.zero_add, ← List.range_eq_range'] at this
theorem mem_range_map (f : Nat → List UInt8) (hf : ∀ i j, f i = f j → i = j) (n i : Nat) : f i ∈ (List.range n).map f ↔ i < n := by
  constructor
  · intro h
    obtain ⟨j, hj, e⟩ := List.mem_map.1 h
    rw [← hf _ _ e]
    exact List.mem_range.1 hj
  · intro h
    exact List.mem_map.2 ⟨i, List.mem_range.2 h, rfl⟩

/-! The operations' names. -/
def opn (op : Int) : List UInt8 := (opAt op).1.data.toList
theorem op_tab : (List.range 36).all (fun k => !isDecl (opn k) && (opn k != []) && (opn k).all (fun c => !isSep c) && (k == 0 || k == 35 || k == 1 || k == 2 || k == 3 || k == 4 || decide ((opAt (k : Int)).2.2.2.1 = 1))) = true := by decide +kernel
theorem op_at' {k : Nat} (h : k < 36) : isDecl (opn k) = false ∧ Wd (opn k) ∧ (k ≠ 0 → k ≠ 35 → k ≠ 1 → k ≠ 2 → k ≠ 3 → k ≠ 4 → (opAt (k : Int)).2.2.2.1 = 1) := by
  have := List.all_eq_true.1 op_tab k (List.mem_range.2 h)
  simp only [Bool.and_eq_true, Bool.or_eq_true, Bool.not_eq_true', bne_iff_ne, beq_iff_eq, List.all_eq_true, decide_eq_true_eq] at this
  obtain ⟨⟨⟨h1, h2⟩, h3⟩, h4⟩ := this
  refine ⟨h1, ⟨h2, h3⟩, fun a b c d e f => ?_⟩
  rcases h4 with (((((h | h) | h) | h) | h) | h) | h
  all_goals first | exact h | contradiction
theorem find_opn {k : Nat} (h : k < 36) : findW (opn k) = ((k : Int), true) := by
  have := List.all_eq_true.1 fnd_tab k (List.mem_range.2 h)
  simp only [Bool.and_eq_true, beq_iff_eq] at this
  unfold findW opn fndV
  rw [show (⟨(opAt (k : Int)).1.data.toList.toArray⟩ : ByteArray) = (opAt (k : Int)).1 from rfl, this.1]
theorem lim_tab' : (List.range 36).all (fun k => if k = 0 then decide ((opAt (k : Int)).2.2.2.1 = 4294967296) else if k = 35 then decide ((opAt (k : Int)).2.2.2.1 = 16) else true) = true := by decide +kernel

/-! The lines of a program. -/
def kindW (wide : Bool) : List UInt8 := if wide then dWords else dBytes
/-- The words behind the name of an operation. -/
def opdW (x : Int × Int) : List (List UInt8) :=
  if x.1 = 0 ∨ x.1 = 35 then [decDigits x.2.toNat] else if x.1 = 1 ∨ x.1 = 2 then [lN x.2.toNat] else if x.1 = 3 ∨ x.1 = 4 then [aN x.2.toNat] else []
/-- Does the operand's local or array exist? -/
def opdOk (A : List (Bool × Int)) (L : Int) (x : Int × Int) : Bool :=
  if x.1 = 1 ∨ x.1 = 2 then decide (x.2 < L) else if x.1 = 3 ∨ x.1 = 4 then decide (x.2 < (A.length : Int)) else true
/-- The spaces ahead of an operation at a depth, and the depth behind it. -/
def indF (d : Nat) (op : Int) : Nat × Nat := if op = 28 then (d - 1, d) else if op = 31 then (d - 1, d - 1) else if op = 27 ∨ op = 29 then (d, d + 1) else (d, d)
def codeL : Nat → List (Int × Int) → List (Nat × List UInt8 × List (List UInt8))
  | _, [] => []
  | d, x :: r => (2 * (indF d x.1).1, opn x.1, opdW x) :: codeL (indF d x.1).2 r
def arrL (k : Nat) : List (Bool × Int) → List (Nat × List UInt8 × List (List UInt8))
  | [] => []
  | x :: r => (0, kindW x.1, [aN k, decDigits x.2.toNat]) :: arrL (k + 1) r
def locL (k : Nat) : Nat → List (Nat × List UInt8 × List (List UInt8))
  | 0 => []
  | n + 1 => (0, dLocal, [lN k]) :: locL (k + 1) n
def progL (A : List (Bool × Int)) (L : Int) (C : List (Int × Int)) : List (Nat × List UInt8 × List (List UInt8)) := arrL 0 A ++ (locL 0 L.toNat ++ codeL 0 C)
def wordsL (l : List (Nat × List UInt8 × List (List UInt8))) : List (List UInt8) := l.flatMap fun x => x.2.1 :: x.2.2
end Go.Proofs.YthjnchjfmbblfaaGreatDoor.Src

/- What is printed is read again: the reader over the words of a printed program. -/
namespace Go.Proofs.YthjnchjfmbblfaaGreatDoor.Src
open Go.Lib
set_option linter.unusedVariables false

/-- The reader behind i arrays, j locals and the code so far. -/
def rsAt (A : List (Bool × Int)) (i j : Nat) (C : List (Int × Int)) (ws : List (List UInt8 × Nat)) : RS := ⟨ws, (List.range i).map aN, (List.range j).map lN, [], A, C⟩
theorem loop_step {e n : Nat} {s s' : RS} {w : List UInt8 × Nat} {r : List (List UInt8 × Nat)} (hw : s.ws = w :: r) (h : stepF e w { s with ws := r } = .ok s') : loopF e (n + 1) s = loopF e n s' := by
  rw [loopF, hw]
  show (match stepF e w { s with ws := r } with | Except.error x => Except.error x | Except.ok s' => loopF e n s') = _
  rw [h]
theorem nextF_cons {e : Nat} {s : RS} {w : List UInt8 × Nat} {r : List (List UInt8 × Nat)} (hw : s.ws = w :: r) : nextF e s = (w, { s with ws := r }) := by rw [nextF, hw]
theorem nameF_ok {e : Nat} {s : RS} {w : List UInt8 × Nat} {r : List (List UInt8 × Nat)} (hw : s.ws = w :: r) (h : nameOk w.1 = true) : nameF e s = .ok (w, { s with ws := r }) := by
  rw [nameF, nextF_cons hw, if_pos h]
theorem freshF_ok {e : Nat} {s : RS} {w : List UInt8 × Nat} {r : List (List UInt8 × Nat)} (hw : s.ws = w :: r) (h : nameOk w.1 = true) (hc : s.con = []) (ha : w.1 ∉ s.arr) (hl : w.1 ∉ s.loc) : freshF e s = .ok (w, { s with ws := r }) := by
  rw [freshF, nameF_ok hw h]
  show (if (conF s.con w.1).isSome ∨ w.1 ∈ s.arr ∨ w.1 ∈ s.loc then _ else _) = _
  rw [if_neg (by rw [hc]; simp [conF, ha, hl])]
theorem valueF_num {e : Nat} {s : RS} {w : List UInt8 × Nat} {r : List (List UInt8 × Nat)} {n : Nat} (hw : s.ws = w :: r) (h : numF w.1 = some n) : valueF e s = .ok ((n, w.2), { s with ws := r }) := by
  rw [valueF, hw]
  simp only [List.head?_cons, Option.bind_some, h]
  rw [nextF_cons hw]
theorem sumA_snoc (A : List (Bool × Int)) (x : Bool × Int) : sumA (A ++ [x]) = sumA A + x.2 := by simp [sumA]

theorem read_arr (e : Nat) (A : List (Bool × Int)) (x : Bool × Int) (ws : List (List UInt8 × Nat)) (p0 p1 p2 : Nat) (h8 : A.length < 8) (h0 : 0 < x.2) (h1 : sumA A + x.2 ≤ 65536) (h2 : x.2 ≤ 65536) (n : Nat) :
    loopF e (n + 1) (rsAt A A.length 0 [] ((kindW x.1, p0) :: (aN A.length, p1) :: (decDigits x.2.toNat, p2) :: ws)) = loopF e n (rsAt (A ++ [x]) (A.length + 1) 0 [] ws) := by
  refine loop_step rfl ?_
  have hf : freshF e (rsAt A A.length 0 [] ((aN A.length, p1) :: (decDigits x.2.toNat, p2) :: ws)) = .ok ((aN A.length, p1), rsAt A A.length 0 [] ((decDigits x.2.toNat, p2) :: ws)) :=
    freshF_ok rfl (nm_at (by omega)).1 rfl (fun h => absurd ((mem_range_map aN (fun _ _ => aN_inj) _ _).1 h) (by omega)) (by simp [rsAt])
  have hv : valueF e (rsAt A A.length 0 [] ((decDigits x.2.toNat, p2) :: ws)) = .ok ((x.2.toNat, p2), rsAt A A.length 0 [] ws) := valueF_num (w := (decDigits x.2.toNat, p2)) (r := ws) (n := x.2.toNat) rfl (num_dd _ (by omega))
  have hA : ∀ wide, wide = x.1 → arrayF e wide (rsAt A A.length 0 [] ((aN A.length, p1) :: (decDigits x.2.toNat, p2) :: ws)) = .ok (rsAt (A ++ [x]) (A.length + 1) 0 [] ws) := by
    rintro wide rfl
    rw [arrayF, hf]
    show (if 8 ≤ ((List.range A.length).map aN).length then _ else _) = _
    rw [if_neg (by simp; omega), hv]
    show (if 0 < x.2.toNat ∧ ((x.2.toNat : Nat) : Int) + sumA A ≤ 65536 then _ else _) = _
    rw [if_pos (by omega)]
    show Except.ok _ = Except.ok _
    congr 1
    unfold rsAt
    rw [List.range_succ, List.map_append, Int.toNat_of_nonneg (by omega)]
    rfl
  show stepF e (kindW x.1, p0) _ = _
  unfold stepF
  cases hx : x.1 with
  | false => exact (if_pos rfl).trans (hA false hx.symm)
  | true => exact (if_neg (show ¬ kindW true = dBytes by decide)).trans ((if_pos rfl).trans (hA true hx.symm))
theorem read_loc (e : Nat) (A : List (Bool × Int)) (k : Nat) (ws : List (List UInt8 × Nat)) (p0 p1 : Nat) (hk : k < 16) (n : Nat) :
    loopF e (n + 1) (rsAt A A.length k [] ((dLocal, p0) :: (lN k, p1) :: ws)) = loopF e n (rsAt A A.length (k + 1) [] ws) := by
  refine loop_step rfl ?_
  have hf : freshF e (rsAt A A.length k [] ((lN k, p1) :: ws)) = .ok ((lN k, p1), rsAt A A.length k [] ws) :=
    freshF_ok rfl (nm_at hk).2 rfl (fun h => by obtain ⟨j, -, e⟩ := List.mem_map.1 h; exact al_ne _ _ e) (fun h => absurd ((mem_range_map lN (fun _ _ => lN_inj) _ _).1 h) (by omega))
  show stepF e (dLocal, p0) _ = _
  unfold stepF
  refine (if_neg (show ¬ dLocal = dBytes by decide)).trans ((if_neg (show ¬ dLocal = dWords by decide)).trans ((if_pos rfl).trans ?_))
  show localF e (rsAt A A.length k [] ((lN k, p1) :: ws)) = _
  rw [localF, hf]
  show (if 16 ≤ ((List.range k).map lN).length then _ else _) = _
  rw [if_neg (by simp; omega)]
  show Except.ok _ = Except.ok _
  congr 1
  unfold rsAt
  rw [List.range_succ, List.map_append]
  rfl
theorem indexF_ok {e : Nat} {l : List (List UInt8)} {s : RS} {w : List UInt8 × Nat} {r : List (List UInt8 × Nat)} (hw : s.ws = w :: r) (h : nameOk w.1 = true) (hm : w.1 ∈ l) : indexF e l s = .ok (l.idxOf w.1, { s with ws := r }) := by
  rw [indexF, nameF_ok hw h]
  exact if_pos hm
/-- The argument is read again. -/
theorem read_arg (e : Nat) (A : List (Bool × Int)) (L : Nat) (C : List (Int × Int)) (x : Int × Int) (hx : chkI x.1 x.2 = 0) (h0 : 0 ≤ x.2) (h1 : x.2 ≤ 4294967295) (hA : A.length ≤ 8) (hL : L ≤ 16) (ho : opdOk A L x = true)
    (us ws : List (List UInt8 × Nat)) (hu : us.map (·.1) = opdW x) : argF e x.1 (rsAt A A.length L C (us ++ ws)) = .ok (x.2.toNat, rsAt A A.length L C ws) := by
  have hop : isOp x.1 = true := by
    cases h : isOp x.1 with
    | true => rfl
    | false => rw [chkI, if_pos h] at hx; exact absurd hx (by decide)
  have hlim : x.2 < (opAt x.1).2.2.2.1 := by
    rw [chkI, if_neg (by rw [hop]; decide)] at hx
    by_cases h : (opAt x.1).2.2.2.1 ≤ x.2
    · rw [if_pos h] at hx; exact absurd hx (by decide)
    · omega
  obtain ⟨k, hk, hk36⟩ : ∃ k : Nat, x.1 = (k : Int) ∧ k < 36 := by
    have := of_decide_eq_true hop
    exact ⟨x.1.toNat, by omega, by omega⟩
  unfold argF
  unfold opdW at hu
  unfold opdOk at ho
  by_cases c0 : x.1 = 0
  · rw [if_pos (Or.inl c0)] at hu
    obtain ⟨⟨u, p⟩, rfl, rfl⟩ : ∃ u, us = [u] ∧ u.1 = decDigits x.2.toNat := by
      cases us with
      | nil => simp at hu
      | cons u us => simp at hu; exact ⟨u, by rw [hu.2], hu.1⟩
    have hv := valueF_num (e := e) (s := rsAt A A.length L C ([(decDigits x.2.toNat, p)] ++ ws)) rfl (num_dd x.2.toNat (by omega))
    rw [if_pos c0, hv]
    rfl
  · rw [if_neg c0]
    by_cases c35 : x.1 = 35
    · rw [if_pos (Or.inr c35)] at hu
      obtain ⟨⟨u, p⟩, rfl, rfl⟩ : ∃ u, us = [u] ∧ u.1 = decDigits x.2.toNat := by
        cases us with
        | nil => simp at hu
        | cons u us => simp at hu; exact ⟨u, by rw [hu.2], hu.1⟩
      have hv := valueF_num (e := e) (s := rsAt A A.length L C ([(decDigits x.2.toNat, p)] ++ ws)) rfl (num_dd x.2.toNat (by omega))
      have h16 : x.2 < 16 := by
        have e16 : (opAt 35).2.2.2.1 = 16 := by decide +kernel
        rw [c35, e16] at hlim
        exact hlim
      rw [if_pos c35, hv]
      exact if_pos (by omega)
    · rw [if_neg c35]
      rw [if_neg (by omega)] at hu
      by_cases c12 : x.1 = 1 ∨ x.1 = 2
      · rw [if_pos c12] at hu ho
        have hlt := of_decide_eq_true ho
        obtain ⟨⟨u, p⟩, rfl, rfl⟩ : ∃ u, us = [u] ∧ u.1 = lN x.2.toNat := by
          cases us with
          | nil => simp at hu
          | cons u us => simp at hu; exact ⟨u, by rw [hu.2], hu.1⟩
        rw [if_pos c12]
        have hi := indexF_ok (e := e) (l := (List.range L).map lN) (s := rsAt A A.length L C ((lN x.2.toNat, p) :: ws)) (w := (lN x.2.toNat, p)) (r := ws) rfl (nm_at (by omega)).2 ((mem_range_map lN (fun _ _ => lN_inj) _ _).2 (by omega))
        rw [show ((List.range L).map lN).idxOf (lN x.2.toNat, p).1 = x.2.toNat from idx_range lN (fun _ _ => lN_inj) _ _ (by omega)] at hi
        exact hi
      · rw [if_neg c12] at hu ho
        rw [if_neg c12]
        by_cases c34 : x.1 = 3 ∨ x.1 = 4
        · rw [if_pos c34] at hu ho
          have hlt := of_decide_eq_true ho
          obtain ⟨⟨u, p⟩, rfl, rfl⟩ : ∃ u, us = [u] ∧ u.1 = aN x.2.toNat := by
            cases us with
            | nil => simp at hu
            | cons u us => simp at hu; exact ⟨u, by rw [hu.2], hu.1⟩
          rw [if_pos c34]
          have hi := indexF_ok (e := e) (l := (List.range A.length).map aN) (s := rsAt A A.length L C ((aN x.2.toNat, p) :: ws)) (w := (aN x.2.toNat, p)) (r := ws) rfl (nm_at (by omega)).1 ((mem_range_map aN (fun _ _ => aN_inj) _ _).2 (by omega))
          rw [show ((List.range A.length).map aN).idxOf (aN x.2.toNat, p).1 = x.2.toNat from idx_range aN (fun _ _ => aN_inj) _ _ (by omega)] at hi
          exact hi
        · rw [if_neg c34] at hu
          rw [if_neg c34]
          obtain rfl : us = [] := by simpa using hu
          have := (op_at' hk36).2.2 (by omega) (by omega) (by omega) (by omega) (by omega) (by omega)
          rw [← hk] at this
          rw [this] at hlim
          rw [show x.2.toNat = 0 by omega]
          rfl
theorem read_ins (e : Nat) (A : List (Bool × Int)) (L : Nat) (C : List (Int × Int)) (x : Int × Int) (hx : chkI x.1 x.2 = 0) (h0 : 0 ≤ x.2) (h1 : x.2 ≤ 4294967295) (hA : A.length ≤ 8) (hL : L ≤ 16) (ho : opdOk A L x = true) (hC : C.length < 1024)
    (p : Nat) (us ws : List (List UInt8 × Nat)) (hu : us.map (·.1) = opdW x) (n : Nat) :
    loopF e (n + 1) (rsAt A A.length L C ((opn x.1, p) :: (us ++ ws))) = loopF e n (rsAt A A.length L (C ++ [x]) ws) := by
  have hop : isOp x.1 = true := by
    cases h : isOp x.1 with
    | true => rfl
    | false => rw [chkI, if_pos h] at hx; exact absurd hx (by decide)
  obtain ⟨k, hk, hk36⟩ : ∃ k : Nat, x.1 = (k : Int) ∧ k < 36 := by
    have := of_decide_eq_true hop
    exact ⟨x.1.toNat, by omega, by omega⟩
  refine loop_step rfl ?_
  have hd : isDecl (opn x.1) = false := by rw [hk]; exact (op_at' hk36).1
  have hfi : findW (opn x.1) = (x.1, true) := by rw [hk]; exact find_opn hk36
  unfold isDecl at hd
  simp only [Bool.or_eq_false_iff, beq_eq_false_iff_ne, ne_eq] at hd
  obtain ⟨⟨⟨d1, d2⟩, d3⟩, d4⟩ := hd
  show stepF e (opn x.1, p) (rsAt A A.length L C (us ++ ws)) = _
  unfold stepF
  refine (if_neg d1).trans ((if_neg d2).trans ((if_neg d3).trans ((if_neg d4).trans ?_)))
  unfold instrF
  rw [show findW (opn x.1, p).1 = (x.1, true) from hfi]
  show (if true = false then _ else if 1024 ≤ C.length then _ else match argF e x.1 (rsAt A A.length L C (us ++ ws)) with | Except.error x => Except.error x | Except.ok (n, s') => Except.ok { s' with C := s'.C ++ [(x.1, (n : Int))] }) = _
  rw [if_neg (by decide), if_neg (by omega), read_arg e A L C x hx h0 h1 hA hL ho us ws hu]
  show Except.ok _ = Except.ok _
  congr 1
  unfold rsAt
  rw [Int.toNat_of_nonneg h0]
end Go.Proofs.YthjnchjfmbblfaaGreatDoor.Src

/- A printed program is read again: the whole. -/
namespace Go.Proofs.YthjnchjfmbblfaaGreatDoor.Src
open Go.Lib
set_option linter.unusedVariables false

theorem map_cons1 {α β : Type} {f : α → β} {l : List α} {b : β} {r : List β} (h : l.map f = b :: r) : ∃ a l', l = a :: l' ∧ f a = b ∧ l'.map f = r := by
  cases l with
  | nil => cases h
  | cons a l => exact ⟨a, l, rfl, (List.cons.inj h).1, (List.cons.inj h).2⟩
theorem map_app1 {α β : Type} {f : α → β} {l : List α} (b : List β) {r : List β} (h : l.map f = b ++ r) : ∃ u v, l = u ++ v ∧ u.map f = b ∧ v.map f = r := by
  induction b generalizing l with
  | nil => exact ⟨[], l, rfl, rfl, h⟩
  | cons x b ih =>
    obtain ⟨a, l', rfl, ha, hl⟩ := map_cons1 h
    obtain ⟨u, v, rfl, hu, hv⟩ := ih hl
    exact ⟨a :: u, v, rfl, by rw [List.map_cons, ha, hu], hv⟩
theorem arrs_sum (A : List (Bool × Int)) : ∀ left, 0 ≤ left → arrs left A = 0 → (∀ x ∈ A, 1 ≤ x.2) ∧ sumA A ≤ left := by
  induction A with
  | nil => intro left h _; exact ⟨(fun x hx => by cases hx), h⟩
  | cons x A ih =>
    intro left h0 h
    rw [arrs] at h
    by_cases hc : x.2 < 1 ∨ left < x.2
    · rw [if_pos hc] at h; exact absurd h (by decide)
    · rw [if_neg hc] at h
      obtain ⟨h1, h2⟩ := ih (left - x.2) (by omega) h
      refine ⟨fun y hy => ?_, ?_⟩
      · rcases List.mem_cons.1 hy with rfl | hy
        · omega
        · exact h1 y hy
      · have : sumA (x :: A) = x.2 + sumA A := by simp [sumA]
        omega
theorem sum_pos (A : List (Bool × Int)) (h : ∀ x ∈ A, 1 ≤ x.2) : 0 ≤ sumA A := by
  induction A with
  | nil => exact Int.le_refl _
  | cons x A ih =>
    have h1 := ih (fun y hy => h y (List.mem_cons_of_mem _ hy))
    have h2 := h x List.mem_cons_self
    have : sumA (x :: A) = x.2 + sumA A := by simp [sumA]
    omega
theorem sumA_app (A B : List (Bool × Int)) : sumA (A ++ B) = sumA A + sumA B := by simp [sumA]
theorem arr_go (e n : Nat) (ws : List (List UInt8 × Nat)) (B : List (Bool × Int)) : ∀ (A : List (Bool × Int)) (us : List (List UInt8 × Nat)), us.map (·.1) = wordsL (arrL A.length B) → (A ++ B).length ≤ 8 → (∀ x ∈ A ++ B, 1 ≤ x.2) → sumA (A ++ B) ≤ 65536 →
    loopF e (B.length + n) (rsAt A A.length 0 [] (us ++ ws)) = loopF e n (rsAt (A ++ B) (A ++ B).length 0 [] ws) := by
  induction B with
  | nil =>
    intro A us hu _ _ _
    obtain rfl : us = [] := by simpa [arrL, wordsL] using hu
    simp
  | cons x B ih =>
    intro A us hu h8 hp hs
    have hu' : us.map (·.1) = kindW x.1 :: aN A.length :: decDigits x.2.toNat :: wordsL (arrL (A.length + 1) B) := hu
    obtain ⟨⟨a0, p0⟩, u0, rfl, rfl, hu0⟩ := map_cons1 hu'
    obtain ⟨⟨a1, p1⟩, u1, rfl, rfl, hu1⟩ := map_cons1 hu0
    obtain ⟨⟨a2, p2⟩, u2, rfl, rfl, hu2⟩ := map_cons1 hu1
    have hx := hp x (by simp)
    have e1 : sumA (A ++ x :: B) = sumA A + (x.2 + sumA B) := by rw [sumA_app]; simp [sumA]
    have hA := sum_pos A (fun y hy => hp y (List.mem_append_left _ hy))
    have hB := sum_pos B (fun y hy => hp y (by simp [hy]))
    have hl : (A ++ x :: B).length = A.length + B.length + 1 := by simp; omega
    have h1 := read_arr e A x (u2 ++ ws) p0 p1 p2 (by omega) (by omega) (by omega) (by omega) (B.length + n)
    have h2 := ih (A ++ [x]) u2 (by rw [hu2]; simp) (by simpa using h8) (by simpa using hp) (by simpa using hs)
    rw [show (x :: B).length + n = B.length + n + 1 by simp; omega]
    refine Eq.trans h1 ?_
    rw [show A.length + 1 = (A ++ [x]).length by simp, h2]
    simp
theorem loc_go (e n : Nat) (A : List (Bool × Int)) (ws : List (List UInt8 × Nat)) (m : Nat) : ∀ (k : Nat) (us : List (List UInt8 × Nat)), us.map (·.1) = wordsL (locL k m) → k + m ≤ 16 →
    loopF e (m + n) (rsAt A A.length k [] (us ++ ws)) = loopF e n (rsAt A A.length (k + m) [] ws) := by
  induction m with
  | zero =>
    intro k us hu _
    obtain rfl : us = [] := by simpa [locL, wordsL] using hu
    simp
  | succ m ih =>
    intro k us hu h16
    have hu' : us.map (·.1) = dLocal :: lN k :: wordsL (locL (k + 1) m) := hu
    obtain ⟨⟨a0, p0⟩, u0, rfl, rfl, hu0⟩ := map_cons1 hu'
    obtain ⟨⟨a1, p1⟩, u1, rfl, rfl, hu1⟩ := map_cons1 hu0
    have h1 := read_loc e A k (u1 ++ ws) p0 p1 (by omega) (m + n)
    have h2 := ih (k + 1) u1 hu1 (by omega)
    rw [show m + 1 + n = m + n + 1 by omega]
    refine Eq.trans h1 ?_
    rw [h2, show k + 1 + m = k + (m + 1) by omega]
theorem code_go (e n : Nat) (A : List (Bool × Int)) (L : Nat) (hA : A.length ≤ 8) (hL : L ≤ 16) (ws : List (List UInt8 × Nat)) (D : List (Int × Int)) : ∀ (d : Nat) (C : List (Int × Int)) (us : List (List UInt8 × Nat)), us.map (·.1) = wordsL (codeL d D) → (C ++ D).length ≤ 1024 →
    OkC D → (∀ x ∈ D, opdOk A L x = true) → loopF e (D.length + n) (rsAt A A.length L C (us ++ ws)) = loopF e n (rsAt A A.length L (C ++ D) ws) := by
  induction D with
  | nil =>
    intro d C us hu _ _ _
    obtain rfl : us = [] := by simpa [codeL, wordsL] using hu
    simp
  | cons x D ih =>
    intro d C us hu hl hc ho
    have hu' : us.map (·.1) = opn x.1 :: (opdW x ++ wordsL (codeL (indF d x.1).2 D)) := by
      rw [hu]; rfl
    obtain ⟨⟨a0, p0⟩, u0, rfl, rfl, hu0⟩ := map_cons1 hu'
    obtain ⟨u1, u2, rfl, hu1, hu2⟩ := map_app1 _ hu0
    obtain ⟨k1, k2, k3⟩ := hc x List.mem_cons_self
    have hl' : (C ++ x :: D).length = C.length + D.length + 1 := by simp; omega
    have h1 := read_ins e A L C x k1 k2 k3 hA hL (ho x List.mem_cons_self) (by omega) p0 u1 (u2 ++ ws) hu1 (D.length + n)
    have h2 := ih (indF d x.1).2 (C ++ [x]) u2 hu2 (by simpa using hl) (fun y hy => hc y (List.mem_cons_of_mem _ hy)) (fun y hy => ho y (List.mem_cons_of_mem _ hy))
    rw [show (x :: D).length + n = D.length + n + 1 by simp; omega]
    simp only [List.cons_append, List.append_assoc] at h1 ⊢
    refine Eq.trans h1 ?_
    rw [h2]
    simp
theorem loop_end (e n : Nat) (s : RS) (h : s.ws = []) : loopF e n s = .ok s := by
  cases n with
  | zero => rfl
  | succ n => rw [loopF, h]
theorem codeL_len (D : List (Int × Int)) : ∀ d, D.length ≤ (wordsL (codeL d D)).length := by
  induction D with
  | nil => intro d; exact Nat.zero_le _
  | cons x D ih =>
    intro d
    have := ih (indF d x.1).2
    have e : wordsL (codeL d (x :: D)) = opn x.1 :: (opdW x ++ wordsL (codeL (indF d x.1).2 D)) := rfl
    rw [e]
    simp only [List.length_cons, List.length_append]
    omega
theorem locL_len (m : Nat) : ∀ k, m ≤ (wordsL (locL k m)).length := by
  induction m with
  | zero => intro k; exact Nat.zero_le _
  | succ m ih =>
    intro k
    have := ih (k + 1)
    have e : wordsL (locL k (m + 1)) = dLocal :: lN k :: wordsL (locL (k + 1) m) := rfl
    rw [e]
    simp only [List.length_cons]
    omega
theorem arrL_len (B : List (Bool × Int)) : ∀ k, B.length ≤ (wordsL (arrL k B)).length := by
  induction B with
  | nil => intro k; exact Nat.zero_le _
  | cons x B ih =>
    intro k
    have := ih (k + 1)
    have e : wordsL (arrL k (x :: B)) = kindW x.1 :: aN k :: decDigits x.2.toNat :: wordsL (arrL (k + 1) B) := rfl
    rw [e]
    simp only [List.length_cons]
    omega
/-- The words of a printed program lead back to it. -/
theorem read_prog (e : Nat) (A : List (Bool × Int)) (L : Int) (C : List (Int × Int)) (hA : A.length ≤ 8) (hA1 : ∀ x ∈ A, 1 ≤ x.2) (hA2 : sumA A ≤ 65536) (hL : L ≤ 16) (hC : C.length ≤ 1024) (hc : OkC C) (hL0 : 0 ≤ L) (ho : ∀ x ∈ C, opdOk A L x = true)
    (ws : List (List UInt8 × Nat)) (hw : ws.map (·.1) = wordsL (progL A L C)) : loopF e ws.length (rs0 ws) = .ok (rsAt A A.length L.toNat C []) := by
  have hw' : ws.map (·.1) = wordsL (arrL 0 A) ++ (wordsL (locL 0 L.toNat) ++ wordsL (codeL 0 C)) := by
    rw [hw]; simp [progL, wordsL]
  obtain ⟨u1, v1, rfl, hu1, hv1⟩ := map_app1 _ hw'
  obtain ⟨u2, u3, rfl, hu2, hu3⟩ := map_app1 _ hv1
  have l1 := arrL_len A 0
  have l2 := locL_len L.toNat 0
  have l3 := codeL_len C 0
  rw [← hu1, List.length_map] at l1
  rw [← hu2, List.length_map] at l2
  rw [← hu3, List.length_map] at l3
  obtain ⟨n, hn⟩ : ∃ n, (u1 ++ (u2 ++ u3)).length = A.length + (L.toNat + (C.length + n)) := ⟨(u1 ++ (u2 ++ u3)).length - (A.length + (L.toNat + C.length)), by simp only [List.length_append]; omega⟩
  rw [hn]
  have h1 := arr_go e (L.toNat + (C.length + n)) (u2 ++ u3) A [] u1 hu1 (by simpa using hA) (by simpa using hA1) (by simpa using hA2)
  have h2 := loc_go e (C.length + n) A u3 L.toNat 0 u2 hu2 (by omega)
  have h3 := code_go e n A L.toNat hA (by omega) [] C 0 [] u3 hu3 (by simpa using hC) hc (by rw [Int.toNat_of_nonneg hL0]; exact ho)
  rw [List.append_nil] at h3
  refine Eq.trans h1 (Eq.trans ?_ (Eq.trans h3 (loop_end e n _ rfl)))
  rw [List.nil_append, h2, Nat.zero_add]
end Go.Proofs.YthjnchjfmbblfaaGreatDoor.Src

/- A printed program is read again: the text. -/
namespace Go.Proofs.YthjnchjfmbblfaaGreatDoor.Src
open Go.Lib
set_option linter.unusedVariables false

theorem dig_sep {c : UInt8} (h : isDig c = true) : isSep c = false := by
  simp only [isDig, Bool.and_eq_true, decide_eq_true_eq, UInt8.le_iff_toNat_le] at h
  have h0 : (48 : UInt8).toNat ≤ c.toNat := h.1
  have e0 : (48 : UInt8).toNat = 48 := rfl
  have e1 : (57 : UInt8).toNat = 57 := rfl
  simp only [isSep, isSp, Bool.or_eq_false_iff, beq_eq_false_iff_ne, ne_eq]
  refine ⟨⟨⟨?_, ?_⟩, ?_⟩, ?_⟩
  all_goals
    rintro rfl
    revert h
    decide
theorem wd_dd (n : Nat) : Wd (decDigits n) := ⟨dd_ne n, fun c hc => dig_sep (List.all_eq_true.1 (dd_digs n) c hc)⟩
theorem wd_cons {c : UInt8} {l : List UInt8} (hc : isSep c = false) (hl : Wd l) : Wd (c :: l) := ⟨by simp, fun d hd => by
  rcases List.mem_cons.1 hd with rfl | hd
  · exact hc
  · exact hl.2 d hd⟩
theorem wd_aN (i : Nat) : Wd (aN i) := wd_cons (by decide) (wd_dd i)
theorem wd_lN (i : Nat) : Wd (lN i) := wd_cons (by decide) (wd_dd i)
theorem wd_kind (b : Bool) : Wd (kindW b) := by cases b <;> exact ⟨by decide, by decide⟩
theorem wd_opd (x : Int × Int) : ∀ y ∈ opdW x, Wd y := by
  intro y hy
  unfold opdW at hy
  split at hy
  · rw [List.mem_singleton] at hy; subst hy; exact wd_dd _
  · split at hy
    · rw [List.mem_singleton] at hy; subst hy; exact wd_lN _
    · split at hy
      · rw [List.mem_singleton] at hy; subst hy; exact wd_aN _
      · cases hy
theorem isop_of {x : Int × Int} (hx : chkI x.1 x.2 = 0) : ∃ k : Nat, x.1 = (k : Int) ∧ k < 36 := by
  have hop : isOp x.1 = true := by
    cases h : isOp x.1 with
    | true => rfl
    | false => rw [chkI, if_pos h] at hx; exact absurd hx (by decide)
  have := of_decide_eq_true hop
  exact ⟨x.1.toNat, by omega, by omega⟩
def WdL (l : List (Nat × List UInt8 × List (List UInt8))) : Prop := ∀ x ∈ l, Wd x.2.1 ∧ ∀ y ∈ x.2.2, Wd y
theorem WdL.cons {x : Nat × List UInt8 × List (List UInt8)} {l : List (Nat × List UInt8 × List (List UInt8))} (h1 : Wd x.2.1) (h2 : ∀ y ∈ x.2.2, Wd y) (h : WdL l) : WdL (x :: l) := by
  intro y hy
  rcases List.mem_cons.1 hy with rfl | hy
  · exact ⟨h1, h2⟩
  · exact h y hy
theorem WdL.app {a b : List (Nat × List UInt8 × List (List UInt8))} (ha : WdL a) (hb : WdL b) : WdL (a ++ b) := fun x hx => (List.mem_append.1 hx).elim (ha x) (hb x)
theorem wd_code (D : List (Int × Int)) (h : OkC D) : ∀ d, WdL (codeL d D) := by
  induction D with
  | nil => intro d x hx; cases hx
  | cons x D ih =>
    intro d
    obtain ⟨k, hk, h36⟩ := isop_of (h x List.mem_cons_self).1
    refine WdL.cons ?_ (wd_opd x) (ih (fun y hy => h y (List.mem_cons_of_mem _ hy)) _)
    show Wd (opn x.1)
    rw [hk]
    exact (op_at' h36).2.1
theorem wd_loc (m : Nat) : ∀ k, WdL (locL k m) := by
  induction m with
  | zero => intro k x hx; cases hx
  | succ m ih =>
    intro k
    refine WdL.cons (show Wd dLocal from ⟨by decide, by decide⟩) ?_ (ih (k + 1))
    intro y hy
    rw [List.mem_singleton] at hy; subst hy; exact wd_lN _
theorem wd_arr (B : List (Bool × Int)) : ∀ k, WdL (arrL k B) := by
  induction B with
  | nil => intro k x hx; cases hx
  | cons x B ih =>
    intro k
    refine WdL.cons (wd_kind _) ?_ (ih (k + 1))
    intro y hy
    simp only [List.mem_cons, List.not_mem_nil, or_false] at hy
    rcases hy with rfl | rfl
    · exact wd_aN _
    · exact wd_dd _
theorem wd_prog (A : List (Bool × Int)) (L : Int) (C : List (Int × Int)) (h : OkC C) : WdL (progL A L C) := (wd_arr A 0).app ((wd_loc _ 0).app (wd_code C h 0))

/-- The text of a program. -/
def textP (A : List (Bool × Int)) (L : Int) (C : List (Int × Int)) : List UInt8 := textB (progL A L C)
/-- What Print says: 0 and the text, or an error. -/
def printF (A : List (Bool × Int)) (L : Int) (C : List (Int × Int)) : List UInt8 × Int :=
  if formE A L C ≠ 0 then ([], formE A L C) else if C.all (opdOk A L) = false then ([], 7) else if 8192 < (textP A L C).length then ([], 5) else (textP A L C, 0)
/-- What assembles a text: the program, or an error. -/
def asmF (src : List UInt8) : Nat × Int ⊕ RS := match readF src with
  | .error x => .inl x
  | .ok s => .inr s
/-- The text of a program in form is read: it is the program. -/
theorem read_text (A : List (Bool × Int)) (L : Int) (C : List (Int × Int)) (h : formE A L C = 0) (hC : OkI C) (ho : C.all (opdOk A L) = true) (hl : (textP A L C).length ≤ 8192) :
    readF (textP A L C) = .ok (rsAt A A.length L.toNat C []) := by
  obtain ⟨h1, h2, h3, h4, h5, h6, h7⟩ := form_ok h
  have hc := okC_of h hC
  rw [readF, if_neg (by omega)]
  refine read_prog _ A L C h1 (fun x hx => (h2 x hx).1) (arrs_sum A 65536 (by decide) h7).2 h4 h5 hc h3 (fun x hx => List.all_eq_true.1 ho x hx) _ ?_
  exact txs_text (progL A L C) (wd_prog A L C hc) 0
theorem print_ok {A : List (Bool × Int)} {L : Int} {C : List (Int × Int)} (h : (printF A L C).2 = 0) : formE A L C = 0 ∧ C.all (opdOk A L) = true ∧ (textP A L C).length ≤ 8192 ∧ printF A L C = (textP A L C, 0) := by
  unfold printF at h ⊢
  by_cases h1 : formE A L C ≠ 0
  · rw [if_pos h1] at h; exact absurd h h1
  · rw [if_neg h1] at h ⊢
    by_cases h2 : C.all (opdOk A L) = false
    · rw [if_pos h2] at h; exact absurd h (by decide)
    · rw [if_neg h2] at h ⊢
      by_cases h3 : 8192 < (textP A L C).length
      · rw [if_pos h3] at h; exact absurd h (by decide)
      · rw [if_neg h3]
        exact ⟨by omega, by simpa using h2, by omega, rfl⟩
end Go.Proofs.YthjnchjfmbblfaaGreatDoor.Src

/- What the reader gives is in form. -/
namespace Go.Proofs.YthjnchjfmbblfaaGreatDoor.Src
open Go.Lib
set_option linter.unusedVariables false

theorem hexV_snoc (l : List UInt8) (c : UInt8) : hexV (l ++ [c]) = hexV l * 16 + (if isDig c then c.toNat - 48 else c.toNat - 87) := by simp [hexV, List.foldl_append]
theorem hex_tab : (List.range 256).all (fun k => !isHex (UInt8.ofNat k) || decide ((if isDig (UInt8.ofNat k) then (UInt8.ofNat k).toNat - 48 else (UInt8.ofNat k).toNat - 87) < 16)) = true := by decide +kernel
theorem hex_lt {c : UInt8} (h : isHex c = true) : (if isDig c then c.toNat - 48 else c.toNat - 87) < 16 := by
  have := List.all_eq_true.1 hex_tab c.toNat (List.mem_range.2 c.toNat_lt)
  rw [UInt8.ofNat_toNat, h] at this
  simpa using this
theorem hexV_lt (k : Nat) : ∀ l : List UInt8, l.length = k → l.all isHex = true → hexV l < 16 ^ k := by
  induction k with
  | zero =>
    intro l hl _
    obtain rfl := List.eq_nil_of_length_eq_zero hl
    decide
  | succ k ih =>
    intro l hl ha
    obtain ⟨u, c, rfl⟩ : ∃ u c, l = u ++ [c] := ⟨l.dropLast, l.getLast (by intro e; rw [e] at hl; cases hl), (List.dropLast_concat_getLast _).symm⟩
    rw [List.all_append, Bool.and_eq_true] at ha
    have h1 := ih u (by simpa using hl) ha.1
    have h2 := hex_lt (c := c) (by simpa using ha.2)
    rw [hexV_snoc, Nat.pow_succ]
    omega
theorem num_bd {s : List UInt8} {n : Nat} (h : numF s = some n) : n ≤ 4294967295 := by
  unfold numF at h
  split at h
  · split at h
    · cases h
    · next hn =>
      simp only [not_or, Bool.not_eq_false] at hn
      have h1 := hexV_lt _ _ rfl hn.2
      have h2 : 16 ^ (s.drop 2).length ≤ 16 ^ 8 := Nat.pow_le_pow_right (by decide) (by omega)
      have h3 : (16 : Nat) ^ 8 = 4294967296 := by decide
      obtain rfl := Option.some.inj h
      omega
  · split at h
    · cases h
    · split at h
      · next hn => obtain rfl := Option.some.inj h; exact hn
      · cases h

/-- What the reader keeps. -/
structure RInv (s : RS) : Prop where
  na : s.arr.length = s.A.length
  a8 : s.A.length ≤ 8
  a1 : ∀ x ∈ s.A, 1 ≤ x.2
  sm : sumA s.A ≤ 65536
  l16 : s.loc.length ≤ 16
  con : ∀ x ∈ s.con, x.2 ≤ 4294967295
  c0 : s.C.length ≤ 1024
  c1 : ∀ x ∈ s.C, chkI x.1 x.2 = 0 ∧ 0 ≤ x.2 ∧ x.2 ≤ 4294967295 ∧ opdOk s.A s.loc.length x = true
theorem RInv.ws {s : RS} (h : RInv s) (r : List (List UInt8 × Nat)) : RInv { s with ws := r } := ⟨h.na, h.a8, h.a1, h.sm, h.l16, h.con, h.c0, h.c1⟩
/-- All but the words is the same. -/
def SameR (s s' : RS) : Prop := ∃ r, s' = { s with ws := r }
theorem nextF_same (e : Nat) (s : RS) : SameR s (nextF e s).2 := by
  unfold nextF
  split
  · exact ⟨s.ws, rfl⟩
  · exact ⟨_, rfl⟩
theorem nameF_same {e : Nat} {s : RS} {x} (h : nameF e s = .ok x) : SameR s x.2 := by
  unfold nameF at h
  split at h
  · obtain rfl := Except.ok.inj h; exact nextF_same e s
  · cases h
theorem freshF_same {e : Nat} {s : RS} {x} (h : freshF e s = .ok x) : SameR s x.2 := by
  unfold freshF at h
  split at h
  · cases h
  · next w s' hn =>
    split at h
    · cases h
    · obtain rfl := Except.ok.inj h; exact nameF_same hn
theorem indexF_same {e : Nat} {l : List (List UInt8)} {s : RS} {x} (h : indexF e l s = .ok x) : SameR s x.2 ∧ x.1 < l.length := by
  unfold indexF at h
  split at h
  · cases h
  · next w s' hn =>
    split at h
    · next hm => obtain rfl := Except.ok.inj h; exact ⟨nameF_same hn, List.idxOf_lt_length_of_mem hm⟩
    · cases h
theorem conF_bd {l : List (List UInt8 × Nat)} {w : List UInt8} {n : Nat} (hl : ∀ x ∈ l, x.2 ≤ 4294967295) (h : conF l w = some n) : n ≤ 4294967295 := by
  unfold conF at h
  obtain ⟨a, ha, rfl⟩ := Option.map_eq_some_iff.1 h
  exact hl a (List.mem_of_find?_eq_some ha)
theorem valueF_same {e : Nat} {s : RS} {x} (hs : RInv s) (h : valueF e s = .ok x) : SameR s x.2 ∧ x.1.1 ≤ 4294967295 := by
  unfold valueF at h
  split at h
  · next n hn =>
    obtain rfl := Except.ok.inj h
    refine ⟨nextF_same e s, ?_⟩
    obtain ⟨w, -, hw⟩ := Option.bind_eq_some_iff.1 hn
    exact num_bd hw
  · split at h
    · cases h
    · next w s' hn =>
      split at h
      · next n hc =>
        obtain rfl := Except.ok.inj h
        obtain ⟨r, hr⟩ := nameF_same hn
        refine ⟨⟨r, hr⟩, conF_bd ?_ hc⟩
        have hr' : s' = { s with ws := r } := hr
        rw [hr']
        exact hs.con
      · cases h
theorem opd_mono {A : List (Bool × Int)} {L : Int} {x : Int × Int} (y : Bool × Int) (h : opdOk A L x = true) : opdOk (A ++ [y]) L x = true ∧ opdOk A (L + 1) x = true := by
  unfold opdOk at h ⊢
  split at h
  · next c => rw [if_pos c, if_pos c]; have := of_decide_eq_true h; exact ⟨h, decide_eq_true (by omega)⟩
  · next c =>
    rw [if_neg c, if_neg c]
    split at h
    · next d => rw [if_pos d, if_pos d]; have := of_decide_eq_true h; exact ⟨decide_eq_true (by simp; omega), h⟩
    · next d => rw [if_neg d, if_neg d]; exact ⟨rfl, rfl⟩
theorem arrayF_inv {e : Nat} {wide : Bool} {s s' : RS} (hs : RInv s) (h : arrayF e wide s = .ok s') : RInv s' := by
  unfold arrayF at h
  split at h
  · cases h
  · next w s1 hf =>
    obtain ⟨r, hr⟩ := freshF_same hf
    obtain rfl : s1 = { s with ws := r } := hr
    split at h
    · cases h
    · next h8 =>
      split at h
      · cases h
      · next n at_ s2 hv =>
        obtain ⟨⟨r2, hr2⟩, hn⟩ := valueF_same (hs.ws r) hv
        obtain rfl : s2 = { s with ws := r2 } := hr2
        split at h
        · next hp =>
          obtain rfl := Except.ok.inj h
          have h8' : ¬ 8 ≤ s.arr.length := h8
          have hp' : 0 < n ∧ (n : Int) + sumA s.A ≤ 65536 := hp
          have hna := hs.na
          refine ⟨by simp [hna], by simp; omega, fun x hx => ?_, ?_, hs.l16, hs.con, hs.c0, fun x hx => ?_⟩
          · rcases List.mem_append.1 hx with hx | hx
            · exact hs.a1 x hx
            · rw [List.mem_singleton] at hx; subst hx; show (1 : Int) ≤ (n : Int); omega
          · rw [sumA_snoc]; show sumA s.A + (n : Int) ≤ _; omega
          · obtain ⟨k1, k2, k3, k4⟩ := hs.c1 x hx
            exact ⟨k1, k2, k3, (opd_mono _ k4).1⟩
        · cases h
theorem localF_inv {e : Nat} {s s' : RS} (hs : RInv s) (h : localF e s = .ok s') : RInv s' := by
  unfold localF at h
  split at h
  · cases h
  · next w s1 hf =>
    obtain ⟨r, hr⟩ := freshF_same hf
    obtain rfl : s1 = { s with ws := r } := hr
    split at h
    · cases h
    · next h16 =>
      obtain rfl := Except.ok.inj h
      have h16' : ¬ 16 ≤ s.loc.length := h16
      refine ⟨hs.na, hs.a8, hs.a1, hs.sm, by simp; omega, hs.con, hs.c0, fun x hx => ?_⟩
      obtain ⟨k1, k2, k3, k4⟩ := hs.c1 x hx
      refine ⟨k1, k2, k3, ?_⟩
      have := (opd_mono (false, 0) k4).2
      simpa using this
theorem constF_inv {e : Nat} {s s' : RS} (hs : RInv s) (h : constF e s = .ok s') : RInv s' := by
  unfold constF at h
  split at h
  · cases h
  · next w s1 hf =>
    obtain ⟨r, hr⟩ := freshF_same hf
    obtain rfl : s1 = { s with ws := r } := hr
    split at h
    · cases h
    · next n at_ s2 hv =>
      obtain ⟨⟨r2, hr2⟩, hn⟩ := valueF_same (hs.ws r) hv
      obtain rfl : s2 = { s with ws := r2 } := hr2
      obtain rfl := Except.ok.inj h
      refine ⟨hs.na, hs.a8, hs.a1, hs.sm, hs.l16, fun x hx => ?_, hs.c0, hs.c1⟩
      rcases List.mem_cons.1 hx with rfl | hx
      · exact hn
      · exact hs.con x hx
theorem rs0_inv (ws : List (List UInt8 × Nat)) : RInv (rs0 ws) := ⟨rfl, Nat.zero_le _, (fun x hx => by cases hx), (show sumA [] ≤ 65536 by decide), Nat.zero_le _, (fun x hx => by cases hx), Nat.zero_le _, (fun x hx => by cases hx)⟩
end Go.Proofs.YthjnchjfmbblfaaGreatDoor.Src

/- What the reader gives is in form: the whole; the length of a text. -/
namespace Go.Proofs.YthjnchjfmbblfaaGreatDoor.Src
open Go.Lib
set_option linter.unusedVariables false

theorem fnd_lt (s : ByteArray) (n : Nat) : ∀ k j, fnd s k n = some j → j < k + n := by
  induction n with
  | zero => intro k j h; cases h
  | succ n ih =>
    intro k j h
    rw [fnd] at h
    split at h
    · obtain rfl := Option.some.inj h; omega
    · have := ih (k + 1) j h; omega
theorem findW_lt {w : List UInt8} (h : (findW w).2 = true) : ∃ k : Nat, (findW w).1 = (k : Int) ∧ k < 36 := by
  unfold findW fndV at h ⊢
  split at h
  · next k hk => exact ⟨k, rfl, by have := fnd_lt _ _ _ _ hk; omega⟩
  · cases h
theorem lim_tab2 : (List.range 36).all (fun k => decide ((opAt (k : Int)).2.2.2.1 = if k = 0 then 4294967296 else if k = 35 then 16 else if k = 1 ∨ k = 2 then 16 else if k = 3 ∨ k = 4 then 8 else 1)) = true := by decide +kernel
theorem lim_at {k : Nat} (h : k < 36) : (opAt (k : Int)).2.2.2.1 = if k = 0 then 4294967296 else if k = 35 then 16 else if k = 1 ∨ k = 2 then 16 else if k = 3 ∨ k = 4 then 8 else 1 := of_decide_eq_true (List.all_eq_true.1 lim_tab2 k (List.mem_range.2 h))
theorem chk_of {k n : Nat} (h : k < 36) (hn : (n : Int) < (opAt (k : Int)).2.2.2.1) : chkI (k : Int) (n : Int) = 0 := by
  unfold chkI
  rw [if_neg (by rw [isop_lt k h]; decide), if_neg (by omega)]
theorem argF_inv {e k n : Nat} {s s' : RS} (hk : k < 36) (hs : RInv s) (h : argF e (k : Int) s = .ok (n, s')) :
    SameR s s' ∧ chkI (k : Int) (n : Int) = 0 ∧ n ≤ 4294967295 ∧ opdOk s.A s.loc.length ((k : Int), (n : Int)) = true := by
  have hlim := lim_at hk
  have hna := hs.na
  have ha8 := hs.a8
  have hl := hs.l16
  unfold argF at h
  by_cases c0 : (k : Int) = 0
  · rw [if_pos c0] at h
    rw [if_pos (by omega)] at hlim
    split at h
    · cases h
    · next m at_ s1 hv =>
      obtain ⟨h1, h2⟩ := valueF_same hs hv
      obtain ⟨rfl, rfl⟩ := Prod.mk.inj (Except.ok.inj h)
      have h2' : m ≤ 4294967295 := h2
      refine ⟨h1, chk_of hk (by omega), h2', ?_⟩
      unfold opdOk
      exact (if_neg (show ¬ ((k : Int) = 1 ∨ (k : Int) = 2) by omega)).trans (if_neg (show ¬ ((k : Int) = 3 ∨ (k : Int) = 4) by omega))
  · rw [if_neg c0] at h
    rw [if_neg (by omega)] at hlim
    by_cases c35 : (k : Int) = 35
    · rw [if_pos c35] at h
      rw [if_pos (by omega)] at hlim
      split at h
      · cases h
      · next m at_ s1 hv =>
        obtain ⟨h1, h2⟩ := valueF_same hs hv
        split at h
        · next h16 =>
          obtain ⟨rfl, rfl⟩ := Prod.mk.inj (Except.ok.inj h)
          refine ⟨h1, chk_of hk (by omega), by omega, ?_⟩
          unfold opdOk
          exact (if_neg (show ¬ ((k : Int) = 1 ∨ (k : Int) = 2) by omega)).trans (if_neg (show ¬ ((k : Int) = 3 ∨ (k : Int) = 4) by omega))
        · cases h
    · rw [if_neg c35] at h
      rw [if_neg (by omega)] at hlim
      by_cases c12 : (k : Int) = 1 ∨ (k : Int) = 2
      · rw [if_pos c12] at h
        rw [if_pos (by omega)] at hlim
        obtain ⟨h1, h2⟩ := indexF_same h
        have h2' : n < s.loc.length := h2
        refine ⟨h1, chk_of hk (by omega), by omega, ?_⟩
        unfold opdOk
        exact (if_pos c12).trans (decide_eq_true (by show (n : Int) < _; omega))
      · rw [if_neg c12] at h
        rw [if_neg (by omega)] at hlim
        by_cases c34 : (k : Int) = 3 ∨ (k : Int) = 4
        · rw [if_pos c34] at h
          rw [if_pos (by omega)] at hlim
          obtain ⟨h1, h2⟩ := indexF_same h
          have h2' : n < s.arr.length := h2
          refine ⟨h1, chk_of hk (by omega), by omega, ?_⟩
          unfold opdOk
          exact (if_neg c12).trans ((if_pos c34).trans (decide_eq_true (by show (n : Int) < _; omega)))
        · rw [if_neg c34] at h
          rw [if_neg (by omega)] at hlim
          obtain ⟨rfl, rfl⟩ := Prod.mk.inj (Except.ok.inj h)
          refine ⟨⟨s.ws, rfl⟩, chk_of hk (by omega), by omega, ?_⟩
          unfold opdOk
          exact (if_neg c12).trans (if_neg c34)
theorem instrF_inv {e : Nat} {w : List UInt8 × Nat} {s s' : RS} (hs : RInv s) (h : instrF e w s = .ok s') : RInv s' := by
  unfold instrF at h
  split at h
  · cases h
  · next hf =>
    split at h
    · cases h
    · next hc =>
      obtain ⟨k, hk, h36⟩ := findW_lt (w := w.1) (by simpa using hf)
      rw [hk] at h
      split at h
      · cases h
      · next n s1 ha =>
        obtain ⟨⟨r, rfl⟩, h1, h2, h3⟩ := argF_inv h36 hs ha
        obtain rfl := Except.ok.inj h
        refine ⟨hs.na, hs.a8, hs.a1, hs.sm, hs.l16, hs.con, by simp; omega, fun x hx => ?_⟩
        rcases List.mem_append.1 hx with hx | hx
        · exact hs.c1 x hx
        · rw [List.mem_singleton] at hx
          subst hx
          exact ⟨h1, by show (0 : Int) ≤ (n : Int); omega, by show (n : Int) ≤ _; omega, h3⟩
theorem stepF_inv {e : Nat} {w : List UInt8 × Nat} {s s' : RS} (hs : RInv s) (h : stepF e w s = .ok s') : RInv s' := by
  unfold stepF at h
  split at h
  · exact arrayF_inv hs h
  · split at h
    · exact arrayF_inv hs h
    · split at h
      · exact localF_inv hs h
      · split at h
        · exact constF_inv hs h
        · exact instrF_inv hs h
theorem loopF_inv {e : Nat} (n : Nat) : ∀ {s s' : RS}, RInv s → loopF e n s = .ok s' → RInv s' := by
  induction n with
  | zero => intro s s' hs h; obtain rfl := Except.ok.inj h; exact hs
  | succ n ih =>
    intro s s' hs h
    rw [loopF] at h
    split at h
    · obtain rfl := Except.ok.inj h; exact hs
    · next w r hw =>
      split at h
      · cases h
      · next s1 h1 => exact ih (stepF_inv (hs.ws r) h1) h
theorem readF_inv {src : List UInt8} {s : RS} (h : readF src = .ok s) : RInv s := by
  unfold readF at h
  split at h
  · cases h
  · exact loopF_inv _ (rs0_inv _) h
theorem arrs_of (A : List (Bool × Int)) : ∀ left, (∀ x ∈ A, 1 ≤ x.2) → sumA A ≤ left → arrs left A = 0 := by
  induction A with
  | nil => intro left _ _; rfl
  | cons x A ih =>
    intro left h hs
    have e : sumA (x :: A) = x.2 + sumA A := by simp [sumA]
    have h0 := sum_pos A (fun y hy => h y (List.mem_cons_of_mem _ hy))
    have h1 := h x List.mem_cons_self
    rw [arrs, if_neg (by omega)]
    exact ih _ (fun y hy => h y (List.mem_cons_of_mem _ hy)) (by omega)
theorem codE_of (C : List (Int × Int)) (h : ∀ x ∈ C, chkI x.1 x.2 = 0) : codE C = 0 := by
  induction C with
  | nil => rfl
  | cons x C ih =>
    rw [codE, if_neg (by rw [h x List.mem_cons_self]; decide)]
    exact ih (fun y hy => h y (List.mem_cons_of_mem _ hy))
/-- What was read is a program in form, and its operands exist. -/
theorem RInv.form {s : RS} (h : RInv s) : formE s.A s.loc.length s.C = 0 ∧ s.C.all (opdOk s.A s.loc.length) = true := by
  have h8 := h.a8
  have h16 := h.l16
  have hc := h.c0
  refine ⟨?_, List.all_eq_true.2 fun x hx => (h.c1 x hx).2.2.2⟩
  have e : arrE s.A = 0 := by rw [arrE, if_neg (by omega)]; exact arrs_of _ _ h.a1 h.sm
  rw [formE, if_neg (by rw [e]; decide), if_neg (by omega), if_neg (by omega)]
  exact codE_of _ fun x hx => (h.c1 x hx).1
end Go.Proofs.YthjnchjfmbblfaaGreatDoor.Src
