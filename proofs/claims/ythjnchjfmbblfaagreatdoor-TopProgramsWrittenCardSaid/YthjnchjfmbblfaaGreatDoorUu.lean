/- The length of a text: at most 40 instructions fit. -/
import Derived.Test.YthjnchjfmbblfaaGreatDoorUh
import Derived.Test.YthjnchjfmbblfaaGreatDoorUj
import Derived.Test.YthjnchjfmbblfaaGreatDoorShelf
import Derived.Lib.ConvBytes
import Derived.Lib.Walk
import Derived.BigCall
import Derived.BigGuard
namespace Go.Proofs.YthjnchjfmbblfaaGreatDoor.Src
open Go.Lib
set_option linter.unusedVariables false

theorem textB_cons (x : Nat × List UInt8 × List (List UInt8)) (l : List (Nat × List UInt8 × List (List UInt8))) : (textB (x :: l)).length = x.1 + x.2.1.length + (x.2.2.flatMap fun y => (32 : UInt8) :: y).length + 1 + (textB l).length := by
  simp only [textB, List.flatMap_cons, List.length_append, lineB, List.length_replicate, List.length_cons, List.length_nil]
  omega
theorem textB_app (a b : List (Nat × List UInt8 × List (List UInt8))) : (textB (a ++ b)).length = (textB a).length + (textB b).length := by
  unfold textB
  rw [List.flatMap_append, List.length_append]
theorem ops_len : (List.range 36).all (fun k => decide ((opn (k : Int)).length ≤ 7)) = true := by decide +kernel
theorem opd_len {x : Int × Int} (h : chkI x.1 x.2 = 0) (h0 : 0 ≤ x.2) (h1 : x.2 ≤ 4294967295) : ((opdW x).flatMap fun y => (32 : UInt8) :: y).length ≤ 12 := by
  have hd := dd_len 9 x.2.toNat (by omega)
  unfold opdW
  split
  · simp only [List.flatMap_cons, List.flatMap_nil, List.append_nil, List.length_cons]; omega
  · split
    · simp only [lN, List.flatMap_cons, List.flatMap_nil, List.append_nil, List.length_cons]; omega
    · split
      · simp only [aN, List.flatMap_cons, List.flatMap_nil, List.append_nil, List.length_cons]; omega
      · exact Nat.zero_le _
theorem indF_le (d : Nat) (op : Int) : (indF d op).1 ≤ d ∧ (indF d op).2 ≤ d + 1 := by
  unfold indF
  split
  · exact ⟨by omega, by omega⟩
  · split
    · exact ⟨by omega, by omega⟩
    · split
      · exact ⟨by omega, by omega⟩
      · exact ⟨by omega, by omega⟩
theorem code_text (B : Nat) (C : List (Int × Int)) (hC : OkC C) : ∀ d, d + C.length ≤ B → (textB (codeL d C)).length ≤ C.length * (2 * B + 20) := by
  induction C with
  | nil => intro d _; exact Nat.zero_le _
  | cons x C ih =>
    intro d hd
    obtain ⟨k1, k2, k3⟩ := hC x List.mem_cons_self
    obtain ⟨k, hk, h36⟩ := isop_of k1
    have ho := of_decide_eq_true (List.all_eq_true.1 ops_len k (List.mem_range.2 h36))
    rw [← hk] at ho
    have hp := opd_len k1 k2 k3
    obtain ⟨i1, i2⟩ := indF_le d x.1
    simp only [List.length_cons] at hd
    have h1 := ih (fun y hy => hC y (List.mem_cons_of_mem _ hy)) (indF d x.1).2 (by omega)
    have e : codeL d (x :: C) = (2 * (indF d x.1).1, opn x.1, opdW x) :: codeL (indF d x.1).2 C := rfl
    rw [e, textB_cons, List.length_cons, Nat.succ_mul C.length (2 * B + 20)]
    show 2 * (indF d x.1).1 + (opn x.1).length + ((opdW x).flatMap fun y => (32 : UInt8) :: y).length + 1 + _ ≤ _
    omega
theorem loc_text (m : Nat) : ∀ k, k + m ≤ 16 → (textB (locL k m)).length ≤ m * 10 := by
  induction m with
  | zero => intro k _; exact Nat.le_refl _
  | succ m ih =>
    intro k hk
    have h1 := ih (k + 1) (by omega)
    have hd := dd_len 1 k (by omega)
    have e : locL k (m + 1) = (0, dLocal, [lN k]) :: locL (k + 1) m := rfl
    rw [e, textB_cons]
    have e5 : dLocal.length = 5 := rfl
    simp only [lN, List.flatMap_cons, List.flatMap_nil, List.append_nil, List.length_cons, e5]
    omega
theorem arr_text (B : List (Bool × Int)) (hB : ∀ x ∈ B, 1 ≤ x.2 ∧ x.2 ≤ 65536) : ∀ k, k + B.length ≤ 8 → (textB (arrL k B)).length ≤ B.length * 20 := by
  induction B with
  | nil => intro k _; exact Nat.le_refl _
  | cons x B ih =>
    intro k hk
    simp only [List.length_cons] at hk
    obtain ⟨b1, b2⟩ := hB x List.mem_cons_self
    have h1 := ih (fun y hy => hB y (List.mem_cons_of_mem _ hy)) (k + 1) (by omega)
    have hd := dd_len 1 k (by omega)
    have hd' := dd_len 4 x.2.toNat (by omega)
    have e : arrL k (x :: B) = (0, kindW x.1, [aN k, decDigits x.2.toNat]) :: arrL (k + 1) B := rfl
    have e5 : (kindW x.1).length = 5 := by cases x.1 <;> rfl
    rw [e, textB_cons]
    simp only [aN, List.flatMap_cons, List.flatMap_nil, List.append_nil, List.length_append, List.length_cons, e5]
    omega
/-- At most 40 instructions: the text is short enough. -/
theorem text_short (A : List (Bool × Int)) (L : Int) (C : List (Int × Int)) (h : formE A L C = 0) (hC : OkI C) (h40 : C.length ≤ 40) : (textP A L C).length ≤ 8192 := by
  obtain ⟨h1, h2, h3, h4, h5, h6, h7⟩ := form_ok h
  have hc := okC_of h hC
  have t1 := arr_text A h2 0 (by omega)
  have t2 := loc_text L.toNat 0 (by omega)
  have t3 := code_text 40 C hc 0 (by omega)
  unfold textP progL
  rw [textB_app, textB_app]
  have : C.length * (2 * 40 + 20) ≤ 40 * 100 := Nat.mul_le_mul h40 (Nat.le_refl _)
  omega
end Go.Proofs.YthjnchjfmbblfaaGreatDoor.Src

/- The three laws, plain. -/
namespace Go.Proofs.YthjnchjfmbblfaaGreatDoor.Src
open Go.Lib
set_option linter.unusedVariables false

theorem RInv.okI {s : RS} (h : RInv s) : OkI s.C := by
  intro x hx
  obtain ⟨k1, k2, k3, -⟩ := h.c1 x hx
  obtain ⟨k, hk, h36⟩ := isop_of k1
  exact ⟨⟨by omega, by omega⟩, k2, k3⟩
/-- What was assembled is printed, or it is too long and has more than 40 instructions. -/
theorem source_print {src : List UInt8} {s : RS} (h : readF src = .ok s) :
    (printF s.A s.loc.length s.C = (textP s.A s.loc.length s.C, 0) ∧ readF (textP s.A s.loc.length s.C) = .ok (rsAt s.A s.A.length s.loc.length s.C [])) ∨ (printF s.A s.loc.length s.C = ([], 5) ∧ 40 < s.C.length) := by
  have hI := readF_inv h
  obtain ⟨f1, f2⟩ := hI.form
  by_cases hl : 8192 < (textP s.A s.loc.length s.C).length
  · refine Or.inr ⟨?_, ?_⟩
    · rw [printF, if_neg (by rw [f1]; decide), if_neg (by rw [f2]; decide), if_pos hl]
    · rcases Nat.lt_or_ge 40 s.C.length with h40 | h40
      · exact h40
      · have := text_short s.A s.loc.length s.C f1 hI.okI h40
        omega
  · refine Or.inl ⟨?_, ?_⟩
    · rw [printF, if_neg (by rw [f1]; decide), if_neg (by rw [f2]; decide), if_neg hl]
    · have := read_text s.A s.loc.length s.C f1 hI.okI f2 (by omega)
      simpa using this
/-- A program that can be printed is read again from its text. -/
theorem print_read {A : List (Bool × Int)} {L : Int} {C : List (Int × Int)} (hC : OkI C) (h : (printF A L C).2 = 0) :
    readF (printF A L C).1 = .ok (rsAt A A.length L.toNat C []) ∧ formE A L C = 0 ∧ ((L.toNat : Nat) : Int) = L := by
  obtain ⟨h1, h2, h3, h4⟩ := print_ok h
  obtain ⟨-, -, k3, -⟩ := form_ok h1
  rw [h4]
  exact ⟨read_text A L C h1 hC h2 h3, h1, by omega⟩
/-- An error of Print leaves no text. -/
theorem print_bad {A : List (Bool × Int)} {L : Int} {C : List (Int × Int)} (h : (printF A L C).2 ≠ 0) : (printF A L C).1 = [] := by
  unfold printF at h ⊢
  split
  · rfl
  · split
    · rfl
    · split
      · rfl
      · next h1 h2 h3 => rw [if_neg h1, if_neg h2, if_neg h3] at h; exact absurd rfl h
/-- Of a program in form Print says 0, ErrNone or ErrLong. -/
theorem print_form {A : List (Bool × Int)} {L : Int} {C : List (Int × Int)} (h : formE A L C = 0) : (printF A L C).2 = 0 ∨ (printF A L C).2 = 7 ∨ (printF A L C).2 = 5 := by
  unfold printF
  rw [if_neg (by rw [h]; decide)]
  split
  · exact Or.inr (Or.inl rfl)
  · split
    · exact Or.inr (Or.inr rfl)
    · exact Or.inl rfl
end Go.Proofs.YthjnchjfmbblfaaGreatDoor.Src

/- strings.IndexByte; only. -/
namespace Go.Proofs.YthjnchjfmbblfaaGreatDoor
open Go.RowKit
set_option linter.unusedVariables false
set_option linter.unusedSimpArgs false
attribute [local go_sem ↓] Go.wp_at_zero Go.wp_at_succ

theorem indexbyte_any (s : ByteArray) (c : Int) (w : World) :
    Calls Tryz.prog 48 #[.string s, .int .u8 c] w fun e w' => e = .returned (.int .i64 (Lib.indexByte s.data.toList c.toNat.toUInt8)) ∧ w' = w := by
  have h := Tryz.stringslite_IndexByte s c
  obtain ⟨z, hz⟩ : ∃ z, Lib.indexByte s.data.toList c.toNat.toUInt8 = z := ⟨_, rfl⟩
  rw [hz]
  simp only [hz] at h
  replace h := hidden h
  go_enter Tryz.func48, Tryz.ntmps48
  go_wp2_with fail
  refine (h.out _).mono ?_
  rintro e w1 ⟨rfl, rfl⟩
  go_wp2_with fail
  go_ret
  exact ⟨rfl, rfl⟩
/-- A byte of a string. -/
theorem str_at {s : ByteArray} {k : Nat} (hk : k < s.size) : ∃ c : UInt8, s.data.toList[k]? = some c ∧ ∀ w, (Instr.index 9 (.string s) (.int .i64 (k : Int))).run Tryz.prog w = .ok (.int .u8 ((c.toNat : Nat) : Int)) w := by
  refine ⟨s[k]'hk, ?_, fun w => ?_⟩
  · have : k < s.data.toList.length := by simpa using hk
    rw [List.getElem?_eq_getElem this]
    rfl
  · rw [run_index_string w 9 s .i64 (k : Int) (by kernel_rfl), dif_pos ⟨by omega, by omega⟩]
    rfl
def onlyF (s b : ByteArray) : Bool := s.data.toList.all fun c => decide (0 ≤ Lib.indexByte b.data.toList c)
set_option maxHeartbeats 4000000 in
theorem only_any (s b : ByteArray) (hs : s.size ≤ 1000000) (w : World) :
    Calls Tryz.prog 93 #[.string s, .string b] w fun e w' => e = .returned (.bool (onlyF s b)) ∧ w' = w := by
  have hib := indexbyte_any b
  replace hib := hidden hib
  obtain ⟨n, hn⟩ : ∃ n, s.size = n := ⟨_, rfl⟩
  have hlen : s.data.toList.length = n := by simpa using hn
  rw [hn] at hs
  replace hlen := hidden hlen
  have hat : Hid (∀ k, k < n → ∃ c : UInt8, s.data.toList[k]? = some c ∧ ∀ w, (Instr.index 9 (.string s) (.int .i64 (k : Int))).run Tryz.prog w = .ok (.int .u8 ((c.toNat : Nat) : Int)) w) := hidden (fun k hk => str_at (by omega))
  have hsz : ∀ w, (Builtin.len_ #[9] 3 #[.string s]).run Tryz.prog w = .ok (.int .i64 (n : Int)) w := by intro w; rw [run_len_string _ _ _ _ (by kernel_rfl), hn]; rfl
  replace hn := hidden hn
  go_enter Tryz.func93, Tryz.ntmps93
  go_wp2_with fail
  go_loopw [8] (fun i wr => ∃ k : Nat, i = .int .i64 (k : Int) ∧ k ≤ n ∧ Hid ((s.data.toList.take k).all (fun c => decide (0 ≤ Lib.indexByte b.data.toList c)) = true) ∧ wr = w) (fun i _ => n - (intOf i).toNat)
  case atStart => exact ⟨0, rfl, by omega, hidden rfl, rfl⟩
  case round =>
    obtain ⟨k, rfl, hk, hc, rfl⟩ := hrel
    have v1 : IntKind.i64.wrap ((k : Int) + 1) = (k : Int) + 1 := IntWalk.i64_in _ (by omega)
    by_cases hlt : k < n
    · have hlt2 : (k : Int) < (n : Int) := by omega
      obtain ⟨c, hget, hix⟩ := hat.out k hlt
      have hcall := hib.out ((c.toNat : Nat) : Int)
      rw [show (((c.toNat : Nat) : Int)).toNat.toUInt8 = c by simp] at hcall
      obtain ⟨z, hz⟩ : ∃ z, Lib.indexByte b.data.toList c = z := ⟨_, rfl⟩
      rw [hz] at hcall
      have hmem : c ∈ s.data.toList := List.mem_of_getElem? hget
      have hnext : Hid (0 ≤ z → (s.data.toList.take (k + 1)).all (fun c => decide (0 ≤ Lib.indexByte b.data.toList c)) = true) := hidden (by
        intro h0
        rw [List.take_add_one, hget, List.all_append, hc.out]
        simp [hz, h0])
      have hbad : Hid (z < 0 → onlyF s b = false) := hidden (by
        intro h0
        unfold onlyF
        rw [List.all_eq_false]
        exact ⟨c, hmem, by simp [hz]; omega⟩)
      replace hcall := hidden hcall
      replace hget := hidden hget
      replace hz := hidden hz
      clear hmem
      obtain ⟨y, hy⟩ : ∃ y, ((c.toNat : Nat) : Int) = y := ⟨_, rfl⟩
      rw [hy] at hix hcall
      replace hy := hidden hy
      go_wp2_with fail
      refine (hcall.out _).mono ?_
      rintro e w1 ⟨rfl, rfl⟩
      by_cases h0 : z < 0
      · go_wp2_with fail
        go_ret
        exact ⟨by rw [hbad.out h0]; rfl, rfl⟩
      · have h0' := hnext.out (by omega)
        replace h0' := hidden h0'
        go_wp2_with fail
        go_roundw
        case rel => exact ⟨k + 1, by rfl, by omega, h0', trivial⟩
        case measure => show n - (k + 1) < n - k; omega
    · have hge : ¬ (k : Int) < (n : Int) := by omega
      have hV : Hid (onlyF s b = true) := hidden (by
        unfold onlyF
        have := hc.out
        rwa [List.take_of_length_le (by rw [hlen.out]; omega)] at this)
      go_wp2_with fail
      go_ret
      exact ⟨by rw [hV.out]; rfl, rfl⟩
end Go.Proofs.YthjnchjfmbblfaaGreatDoor

/- strings.CutPrefix. -/
namespace Go.Proofs.YthjnchjfmbblfaaGreatDoor
open Go.RowKit
set_option linter.unusedVariables false
set_option linter.unusedSimpArgs false
attribute [local go_sem ↓] Go.wp_at_zero Go.wp_at_succ

theorem hasprefix_in (s p : ByteArray) (w : World) :
    Calls Tryz.prog 82 #[.string s, .string p] w fun e w' => e = .returned (.bool (Lib.hasPrefix s.data.toList p.data.toList)) ∧ w' = w := Tryz.stringslite_HasPrefix s p w
/-- What is left of a string behind a prefix. -/
def cutV (s p : ByteArray) : Value := .tuple #[.string (if Lib.hasPrefix s.data.toList p.data.toList then s.extract p.size s.size else s), .bool (Lib.hasPrefix s.data.toList p.data.toList)]
theorem prefix_len {s p : ByteArray} (h : Lib.hasPrefix s.data.toList p.data.toList = true) : p.size ≤ s.size := by
  unfold Lib.hasPrefix at h
  have := (List.isPrefixOf_iff_prefix.1 h).length_le
  simpa using this
theorem cutprefix_in (s p : ByteArray) (w : World) :
    Calls Tryz.prog 101 #[.string s, .string p] w fun e w' => e = .returned (cutV s p) ∧ w' = w := by
  have hc := hasprefix_in s p
  have hl := prefix_len (s := s) (p := p)
  unfold cutV
  obtain ⟨t, ht⟩ : ∃ t, Lib.hasPrefix s.data.toList p.data.toList = t := ⟨_, rfl⟩
  rw [ht] at hl
  simp only [ht] at hc ⊢
  replace hc := hidden hc
  replace ht := hidden ht
  cases t with
  | true =>
    have hl2 := hl rfl
    have hs : ∀ w, (Instr.slice 9 (.string s) (some (.int .i64 (p.size : Int))) none none).run Tryz.prog w = .ok (.string (s.extract p.size s.size)) w := by
      intro w
      rw [run_slice_string_from_if w 9 s .i64 _ (by kernel_rfl), if_pos ⟨by omega, by omega⟩]
      rfl
    clear hl
    go_enter Tryz.func101, Tryz.ntmps101
    go_wp2_with fail
    refine (hc.out _).mono ?_
    rintro e w1 ⟨rfl, rfl⟩
    go_wp2_with fail
    go_ret2
    exact ⟨rfl, rfl⟩
  | false =>
    clear hl
    go_enter Tryz.func101, Tryz.ntmps101
    go_wp2_with fail
    refine (hc.out _).mono ?_
    rintro e w1 ⟨rfl, rfl⟩
    go_wp2_with fail
    go_ret2
    exact ⟨rfl, rfl⟩
theorem cutprefix_any (s p : ByteArray) (w : World) :
    Calls Tryz.prog 92 #[.string s, .string p] w fun e w' => e = .returned (cutV s p) ∧ w' = w := by
  have hc := cutprefix_in s p
  unfold cutV at hc ⊢
  obtain ⟨t, ht⟩ : ∃ t, Lib.hasPrefix s.data.toList p.data.toList = t := ⟨_, rfl⟩
  simp only [ht] at hc ⊢
  obtain ⟨u, hu⟩ : ∃ u, (if t = true then s.extract p.size s.size else s) = u := ⟨_, rfl⟩
  simp only [hu] at hc ⊢
  replace hc := hidden hc
  replace ht := hidden ht
  replace hu := hidden hu
  go_enter Tryz.func92, Tryz.ntmps92
  go_wp2_with fail
  refine (hc.out _).mono ?_
  rintro e w1 ⟨rfl, rfl⟩
  go_wp2_with fail
  go_ret2
  exact ⟨rfl, rfl⟩
end Go.Proofs.YthjnchjfmbblfaaGreatDoor

/- ParseUint at base 16: at most 8 hexadecimal digits. -/
namespace Go.Proofs.YthjnchjfmbblfaaGreatDoor
open Go.RowKit
set_option linter.unusedVariables false
set_option linter.unusedSimpArgs false

/-- The value of a hexadecimal digit. -/
def hexD (c : UInt8) : Nat := if Src.isDig c then c.toNat - 48 else c.toNat - 87
theorem hexV_cons (l : List UInt8) : ∀ a, l.foldl (fun a c => a * 16 + hexD c) a = a * 16 ^ l.length + l.foldl (fun a c => a * 16 + hexD c) 0 := by
  induction l with
  | nil => intro a; simp
  | cons c l ih =>
    intro a
    rw [List.foldl_cons, List.foldl_cons, ih, ih (0 * 16 + hexD c), List.length_cons, Nat.pow_succ, Nat.zero_mul, Nat.zero_add, Nat.add_mul, Nat.mul_assoc, Nat.mul_comm (16 ^ l.length) 16]
    omega
theorem hex_tab3 : (List.range 256).all (fun k => !Src.isHex (UInt8.ofNat k) || ((48 ≤ k && k ≤ 57 && hexD (UInt8.ofNat k) == k - 48) || (97 ≤ k && k ≤ 102 && hexD (UInt8.ofNat k) == k - 87 && decide (bits .or .u8 (k : Int) 32 = (k : Int))))) = true := by decide +kernel
theorem hex_cases {c : UInt8} (h : Src.isHex c = true) : (48 ≤ c.toNat ∧ c.toNat ≤ 57 ∧ hexD c = c.toNat - 48) ∨ (97 ≤ c.toNat ∧ c.toNat ≤ 102 ∧ hexD c = c.toNat - 87 ∧ bits .or .u8 (c.toNat : Int) 32 = (c.toNat : Int)) := by
  have := List.all_eq_true.1 hex_tab3 c.toNat (List.mem_range.2 c.toNat_lt)
  rw [UInt8.ofNat_toNat, h] at this
  simp only [Bool.not_true, Bool.false_or, Bool.or_eq_true, Bool.and_eq_true, decide_eq_true_eq, beq_iff_eq] at this
  rcases this with ⟨⟨h1, h2⟩, h3⟩ | ⟨⟨⟨h1, h2⟩, h3⟩, h4⟩
  · exact Or.inl ⟨h1, h2, h3⟩
  · exact Or.inr ⟨h1, h2, h3, h4⟩

set_option maxHeartbeats 32000000 in
set_option maxRecDepth 100000 in
theorem pu16_any (t : ByteArray) (hne : t.size ≠ 0) (h8 : t.size ≤ 8) (hh : t.data.toList.all Src.isHex = true) (w : World) :
    Calls Tryz.prog 102 #[.string t, .int .i64 16, .int .i64 32] w fun e w' => e = .returned (.tuple #[.int .u64 (Src.hexV t.data.toList : Nat), .nilIface]) ∧ w' = Lib.bytesWorld w 5 t := by
  have hemp : t.toList.isEmpty = false := by
    rw [← decide_eq_emptyBytes]
    exact decide_eq_false (fun h => hne (by rw [h]; rfl))
  have hcv := Lib.run_convert_string_bytes (P := Tryz.prog) w 9 36 5 t (u := .string) (by kernel_rfl) (by kernel_rfl) (by kernel_rfl)
  have hB : ∀ j, j < t.size → (Lib.bytesWorld w 5 t).cell? ⟨w.heap.size, j, none⟩ = some (.int .u8 (t.data.toList.getD j 0).toNat) := fun j hj => Lib.bytesWorld_cell w 5 t j hj
  obtain ⟨W1, hW1⟩ : ∃ W1, W1 = Lib.bytesWorld w 5 t := ⟨_, rfl⟩
  rw [← hW1] at hcv hB ⊢
  clear hW1
  obtain ⟨bs, hL⟩ : ∃ bs, bs = t.data.toList := ⟨_, rfl⟩
  have hLn : bs.length = t.size := by rw [hL, Lib.size_eq]
  rw [← hL] at hB hh ⊢
  clear hL
  have hmv : IntKind.u64.wrap (IntKind.u64.wrap 4294967296 - 1) = 4294967295 := by
    rw [IntKind.wrap_u64, IntKind.wrap_u64]
    decide
  have hlow := Tryz.internal_strconv_lower
  replace hlow := hidden hlow
  replace hh := hidden hh
  go_enter Tryz.func102, Tryz.ntmps102
  go_wp2
  go_loop [12, 13, 101] (fun vu vn vi => ∃ (k acc : Nat) (a : Int), vu = .bool false ∧ vn = .int .u64 a ∧ vi = .int .i64 k ∧ k ≤ t.size ∧ Hid (a = (acc : Int) ∧ acc < 16 ^ k ∧ acc = Src.hexV (bs.take k)))
    (fun _ _ vi => t.size - (intOf vi).toNat)
  case atStart => exact ⟨0, 0, 0, rfl, rfl, rfl, by omega, rfl, by omega, rfl⟩
  case round =>
    obtain ⟨k, acc, a, rfl, rfl, rfl, hk, hq⟩ := hrel
    by_cases hkn : k < t.size
    · obtain ⟨ha, hacc, hv⟩ := hq.out
      have hp : 16 ^ k ≤ 16 ^ 7 := Nat.pow_le_pow_right (by decide) (by omega)
      have e7 : (16 : Nat) ^ 7 = 268435456 := by decide
      rw [e7] at hp
      have a0 : 0 ≤ a := by omega
      have a1 : a < 268435456 := by omega
      have hc := hB k hkn
      have hget : bs.getD k 0 = bs[k]'(by omega) := by simp [List.getD, List.getElem?_eq_getElem (show k < bs.length by omega)]
      rw [hget] at hc
      have hmem : bs[k]'(by omega) ∈ bs := List.getElem_mem _
      have htk : bs.take (k + 1) = bs.take k ++ [bs[k]'(by omega)] := by rw [List.take_add_one, List.getElem?_eq_getElem (by omega)]; rfl
      have hx := List.all_eq_true.1 hh.out _ hmem
      generalize bs[k]'(by omega) = c at hc hx htk
      have HN : Hid (a * 16 + (hexD c : Int) = ((acc * 16 + hexD c : Nat) : Int) ∧ acc * 16 + hexD c < 16 ^ (k + 1) ∧ acc * 16 + hexD c = Src.hexV (bs.take (k + 1))) := hidden (by
        have hd : hexD c < 16 := Src.hex_lt hx
        refine ⟨by omega, by rw [Nat.pow_succ]; omega, ?_⟩
        rw [htk, Src.hexV_snoc, ← hv]
        rfl)
      clear hB hget hq hmem htk hp e7 hv hacc ha
      rcases hex_cases hx with ⟨hd0, hd1, hd⟩ | ⟨hd0, hd1, hd, hor⟩
      · rw [hd] at HN
        have e : ((c.toNat - 48 : Nat) : Int) = (c.toNat : Int) - 48 := by omega
        rw [e] at HN
        clear hx hd e
        go_wp2
        refine ⟨⟨k + 1, acc * 16 + (c.toNat - 48), a * 16 + ((c.toNat : Int) - 48), rfl, (by first | rfl | (congr 1; omega)), (by first | rfl | (congr 1; omega)), by omega, HN⟩, by simp [intOf]; omega⟩
      · rw [hd] at HN
        have e : ((c.toNat - 87 : Nat) : Int) = (c.toNat : Int) - 87 := by omega
        rw [e] at HN
        clear hx hd e
        have hlc := hlow.out (c.toNat : Int)
        rw [hor] at hlc
        replace hlc := hidden hlc
        clear hor
        go_wp2_with (refine (hlc.out _).mono ?_; rintro e w' ⟨rfl, rfl⟩)
        refine ⟨⟨k + 1, acc * 16 + (c.toNat - 87), a * 16 + ((c.toNat : Int) - 87), rfl, (by first | rfl | (congr 1; omega)), (by first | rfl | (congr 1; omega)), by omega, HN⟩, by simp [intOf]; omega⟩
    · have hkk : k = t.size := by omega
      subst hkk
      have hV : Hid (a = ((Src.hexV bs : Nat) : Int)) := hidden (by
        obtain ⟨h1, -, h2⟩ := hq.out
        rw [h1, h2, List.take_of_length_le (by omega)])
      clear hq
      go_wp2
      go_ret2
      exact ⟨by rw [hV.out]; rfl, rfl⟩
end Go.Proofs.YthjnchjfmbblfaaGreatDoor

/- strconv.ParseUint where internal/strconv.ParseUint has no error; decimal digits. -/
namespace Go.Proofs.YthjnchjfmbblfaaGreatDoor
open Go.RowKit
set_option linter.unusedVariables false
set_option linter.unusedSimpArgs false
attribute [local go_sem ↓] Go.wp_at_zero Go.wp_at_succ

theorem pu_ok (s : ByteArray) (b k : Int) (n : Int) (w W : World)
    (h : Calls Tryz.prog 102 #[.string s, .int .i64 b, .int .i64 k] w fun e w' => e = .returned (.tuple #[.int .u64 n, .nilIface]) ∧ w' = W) :
    Calls Tryz.prog 94 #[.string s, .int .i64 b, .int .i64 k] w fun e w' => e = .returned (.tuple #[.int .u64 n, .nilIface]) ∧ w' = W := by
  replace h := hidden h
  go_enter Tryz.func94, Tryz.ntmps94
  go_wp2_with fail
  refine (h.out).mono ?_
  rintro e w1 ⟨rfl, rfl⟩
  go_wp2_with fail
  go_ret2
  exact ⟨rfl, rfl⟩
/-- Decimal digits: the value, or out of range. -/
theorem parse_digs (l : List UInt8) : ∀ acc, l.all Src.isDig = true → acc ≤ 4294967295 → Lib.parseUintM 4294967295 acc l = .ok (l.foldl (fun a c => a * 10 + (c.toNat - 48)) acc) ∧ l.foldl (fun a c => a * 10 + (c.toNat - 48)) acc ≤ 4294967295 ∨
    (Lib.parseUintM 4294967295 acc l = .range ∧ 4294967295 < l.foldl (fun a c => a * 10 + (c.toNat - 48)) acc) := by
  induction l with
  | nil => intro acc _ h; exact Or.inl ⟨rfl, h⟩
  | cons c l ih =>
    intro acc hd h
    rw [List.all_cons, Bool.and_eq_true] at hd
    have hc : 48 ≤ c.toNat ∧ c.toNat ≤ 57 := by
      have := hd.1
      simp only [Src.isDig, Bool.and_eq_true, decide_eq_true_eq, UInt8.le_iff_toNat_le] at this
      exact this
    rw [Lib.parseUintM, if_pos hc, if_neg (by omega), List.foldl_cons]
    by_cases hov : 4294967295 < acc * 10 + (c.toNat - 48)
    · rw [if_pos hov]
      refine Or.inr ⟨rfl, ?_⟩
      have mono : ∀ (l : List UInt8) (a : Nat), a ≤ l.foldl (fun a c => a * 10 + (c.toNat - 48)) a := by
        intro l
        induction l with
        | nil => intro a; exact Nat.le_refl _
        | cons d l ih2 =>
          intro a
          rw [List.foldl_cons]
          have := ih2 (a * 10 + (d.toNat - 48))
          omega
      have := mono l (acc * 10 + (c.toNat - 48))
      omega
    · rw [if_neg hov]
      exact ih _ hd.2 (by omega)
end Go.Proofs.YthjnchjfmbblfaaGreatDoor

/- strconv.ParseUint out of range. -/
namespace Go.Proofs.YthjnchjfmbblfaaGreatDoor
open Go.RowKit
set_option linter.unusedVariables false
set_option linter.unusedSimpArgs false
attribute [local go_sem ↓] Go.wp_at_zero Go.wp_at_succ

/-- The package's sentinel for a range error lies as its variable's cell says. -/
def ErrR (w : World) : Prop := ∃ ev, w.cell? ⟨3, 0, none⟩ = some ev ∧ (ev = .nilIface ∨ ∃ te pe, ev = .iface te pe)
theorem ErrR.ext {w w' : World} (h : ErrR w) (hx : Ext w w') : ErrR w' := by
  obtain ⟨ev, h1, h2⟩ := h
  exact ⟨ev, hx.cell h1, h2⟩
theorem pu_range (s : ByteArray) (b k : Int) (n : Int) (w W : World) (hs : s.size ≤ 1000000) (hW : Ext w W) (hE : ErrR w)
    (h : Calls Tryz.prog 102 #[.string s, .int .i64 b, .int .i64 k] w fun e w' => e = .returned (.tuple #[.int .u64 n, .iface 160 (.int .i64 1)]) ∧ w' = W) :
    Calls Tryz.prog 94 #[.string s, .int .i64 b, .int .i64 k] w fun e w' => (∃ N, e = .returned (.tuple #[.int .u64 n, .iface 162 (.pointer (some ⟨N, 0, none⟩))])) ∧ Ext w w' := by
  obtain ⟨ev, h1, h2⟩ := hE.ext hW
  have hc := Tryz.strconv_toError_range ⟨#[80, 97, 114, 115, 101, 85, 105, 110, 116]⟩ s b k ev W (by omega) h1 h2
  replace h := hidden h
  replace hc := hidden hc
  replace hW := hidden hW
  clear hE h1 h2
  go_enter Tryz.func94, Tryz.ntmps94
  go_wp2_with fail
  refine (h.out).mono ?_
  rintro e w1 ⟨rfl, rfl⟩
  go_wp2_with fail
  refine (hc.out).mono ?_
  rintro e w2 ⟨N, rfl, hN, hNN, hB⟩
  replace hB := hidden (show Ext w1 w2 from hB)
  clear hN hNN
  go_wp2_with fail
  go_ret2
  exact ⟨⟨N, rfl⟩, hW.out.trans hB.out⟩
end Go.Proofs.YthjnchjfmbblfaaGreatDoor

/- The sets of bytes that 'only' is asked for; a string's parts as lists. -/
namespace Go.Proofs.YthjnchjfmbblfaaGreatDoor
open Go.RowKit
set_option linter.unusedVariables false

def bDig : ByteArray := ⟨#[48, 49, 50, 51, 52, 53, 54, 55, 56, 57]⟩
def bHex : ByteArray := ⟨#[48, 49, 50, 51, 52, 53, 54, 55, 56, 57, 97, 98, 99, 100, 101, 102]⟩
def bLet : ByteArray := ⟨#[97, 98, 99, 100, 101, 102, 103, 104, 105, 106, 107, 108, 109, 110, 111, 112, 113, 114, 115, 116, 117, 118, 119, 120, 121, 122]⟩
def bNm : ByteArray := ⟨#[97, 98, 99, 100, 101, 102, 103, 104, 105, 106, 107, 108, 109, 110, 111, 112, 113, 114, 115, 116, 117, 118, 119, 120, 121, 122, 48, 49, 50, 51, 52, 53, 54, 55, 56, 57, 95]⟩
theorem only_tab : (List.range 256).all (fun k => decide (0 ≤ Lib.indexByte bDig.data.toList (UInt8.ofNat k)) == Src.isDig (UInt8.ofNat k) && decide (0 ≤ Lib.indexByte bHex.data.toList (UInt8.ofNat k)) == Src.isHex (UInt8.ofNat k) &&
    decide (0 ≤ Lib.indexByte bLet.data.toList (UInt8.ofNat k)) == Src.isLet (UInt8.ofNat k) && decide (0 ≤ Lib.indexByte bNm.data.toList (UInt8.ofNat k)) == Src.isNm (UInt8.ofNat k)) = true := by decide +kernel
theorem only_at (c : UInt8) : decide (0 ≤ Lib.indexByte bDig.data.toList c) = Src.isDig c ∧ decide (0 ≤ Lib.indexByte bHex.data.toList c) = Src.isHex c ∧ decide (0 ≤ Lib.indexByte bLet.data.toList c) = Src.isLet c ∧ decide (0 ≤ Lib.indexByte bNm.data.toList c) = Src.isNm c := by
  have := List.all_eq_true.1 only_tab c.toNat (List.mem_range.2 c.toNat_lt)
  rw [UInt8.ofNat_toNat] at this
  simp only [Bool.and_eq_true, beq_iff_eq] at this
  exact ⟨this.1.1.1, this.1.1.2, this.1.2, this.2⟩
theorem only_dig (s : ByteArray) : onlyF s bDig = s.data.toList.all Src.isDig := by unfold onlyF; congr 1; funext c; exact (only_at c).1
theorem only_hex (s : ByteArray) : onlyF s bHex = s.data.toList.all Src.isHex := by unfold onlyF; congr 1; funext c; exact (only_at c).2.1
theorem only_let (s : ByteArray) : onlyF s bLet = s.data.toList.all Src.isLet := by unfold onlyF; congr 1; funext c; exact (only_at c).2.2.1
theorem only_nm (s : ByteArray) : onlyF s bNm = s.data.toList.all Src.isNm := by unfold onlyF; congr 1; funext c; exact (only_at c).2.2.2
theorem extract_list (s : ByteArray) (i j : Nat) : (s.extract i j).data.toList = (s.data.toList.drop i).take (j - i) := by
  rw [ByteArray.data_extract, Array.toList_extract, List.extract_eq_take_drop]
theorem extract_tail (s : ByteArray) (i : Nat) : (s.extract i s.size).data.toList = s.data.toList.drop i := by
  rw [extract_list]
  exact List.take_of_length_le (by rw [List.length_drop]; simp)
theorem prefix_iff (s : ByteArray) : Lib.hasPrefix s.data.toList [48, 120] = decide (s.data.toList.take 2 = [48, 120]) := by
  unfold Lib.hasPrefix
  generalize s.data.toList = l
  match l with
  | [] => rfl
  | [a] => simp [List.isPrefixOf]
  | a :: b :: r =>
    by_cases h1 : a = 48
    · by_cases h2 : b = 120
      · subst h1; subst h2; simp [List.isPrefixOf]
      · have : ¬ (120 : UInt8) = b := fun h => h2 h.symm
        simp [List.isPrefixOf, h2, this]
    · have : ¬ (48 : UInt8) = a := fun h => h1 h.symm
      simp [List.isPrefixOf, h1, this]
end Go.Proofs.YthjnchjfmbblfaaGreatDoor

/- number. -/
namespace Go.Proofs.YthjnchjfmbblfaaGreatDoor
open Go.RowKit
set_option linter.unusedVariables false
set_option linter.unusedSimpArgs false
attribute [local go_sem ↓] Go.wp_at_zero Go.wp_at_succ

theorem emp_iff (t : ByteArray) : t.toList.isEmpty = decide (t.size = 0) := by
  rw [← decide_eq_emptyBytes]
  by_cases h : t = ByteArray.empty
  · subst h; rfl
  · rw [decide_eq_false h]
    have : t.size ≠ 0 := by
      intro h0
      apply h
      obtain ⟨d⟩ := t
      have h1 : d.size = 0 := h0
      rw [Array.eq_empty_of_size_eq_zero h1]
      rfl
    exact (decide_eq_false this).symm
theorem ext_bytes (w : World) (s : ByteArray) : Ext w (Lib.bytesWorld w 5 s) := ⟨rfl, rfl, rfl, by rw [Lib.bytesWorld_size]; omega, fun k hk => Lib.bytesWorld_at_old w 5 s k hk⟩
/-- What number says of a string. -/
def NumP (s : ByteArray) (w : World) (e : Ending) (w' : World) : Prop := (∃ z : Int, e = .returned (.tuple #[.int .i64 z, .bool (Src.numF s.data.toList).isSome]) ∧ ∀ n, Src.numF s.data.toList = some n → z = (n : Int)) ∧ Ext w w'

set_option maxHeartbeats 4000000 in
theorem number_hex (s : ByteArray) (hs : s.size ≤ 1000000) (w : World) (hp : Lib.hasPrefix s.data.toList [48, 120] = true) (hr : (s.extract 2 s.size).size ≠ 0) :
    Calls Tryz.prog 76 #[.string s] w (NumP s w) := by
  have hcut := cutprefix_any s ⟨#[48, 120]⟩ w
  unfold cutV at hcut
  rw [show (⟨#[48, 120]⟩ : ByteArray).data.toList = [48, 120] from rfl, hp] at hcut
  simp only [if_true] at hcut
  rw [show (⟨#[48, 120]⟩ : ByteArray).size = 2 from rfl] at hcut
  obtain ⟨h, hh⟩ : ∃ h, s.extract 2 s.size = h := ⟨_, rfl⟩
  have hl : h.data.toList = s.data.toList.drop 2 := by rw [← hh]; exact extract_tail s 2
  rw [hh] at hcut hr
  have h2 : s.data.toList.take 2 = [48, 120] := of_decide_eq_true (by rw [← prefix_iff]; exact hp)
  have hne : s.data.toList.drop 2 ≠ [] := by
    rw [← hl]
    intro e
    apply hr
    have := congrArg List.length e
    simpa using this
  have hlen : (s.data.toList.drop 2).length = h.size := by rw [← hl]; simp
  have hnum : Src.numF s.data.toList = if 8 < h.size ∨ h.data.toList.all Src.isHex = false then none else some (Src.hexV h.data.toList) := by
    unfold Src.numF
    rw [if_pos ⟨h2, hne⟩, hlen, hl]
  have hsz : h.size ≤ 1000000 := by
    rw [← hlen, List.length_drop]
    have : s.data.toList.length = s.size := by simp
    omega
  have hemp : h.toList.isEmpty = false := by rw [emp_iff]; exact decide_eq_false hr
  have hon := only_any h bHex hsz
  rw [only_hex] at hon
  obtain ⟨n, hn⟩ : ∃ n, h.size = n := ⟨_, rfl⟩
  have hpu := pu16_any h hr
  have hlw : ∀ w, (Builtin.len_ #[9] 3 #[.string h]).run Tryz.prog w = .ok (.int .i64 (n : Int)) w := by intro w; rw [run_len_string _ _ _ _ (by kernel_rfl), hn]; rfl
  rw [hn] at hnum hpu hsz
  unfold bHex at hon
  replace hcut := hidden hcut
  replace hon := hidden hon
  replace hpu := hidden hpu
  clear hl h2 hne hlen hp hh hr
  by_cases h8 : 8 < n
  · have h8' : (8 : Int) < (n : Int) := by omega
    have hV : Src.numF s.data.toList = none := by rw [hnum, if_pos (Or.inl h8)]
    replace hV := hidden hV
    clear hnum hs
    replace hn := hidden hn
    go_enter Tryz.func76, Tryz.ntmps76
    go_wp2_with fail
    refine (hcut.out).mono ?_
    rintro e w1 ⟨rfl, rfl⟩
    go_wp2_with fail
    go_ret2
    exact ⟨⟨0, by rw [hV.out]; rfl, fun n hn => by rw [hV.out] at hn; cases hn⟩, Ext.refl _⟩
  · have h8' : ¬ (8 : Int) < (n : Int) := by omega
    cases ha : h.data.toList.all Src.isHex with
    | false =>
      have hV : Src.numF s.data.toList = none := by rw [hnum, if_pos (Or.inr ha)]
      replace hV := hidden hV
      have hon' := hon.out
      rw [ha] at hon'
      replace hon' := hidden hon'
      clear hnum hs hon hpu ha
      replace hn := hidden hn
      go_enter Tryz.func76, Tryz.ntmps76
      go_wp2_with fail
      refine (hcut.out).mono ?_
      rintro e w1 ⟨rfl, rfl⟩
      go_wp2_with fail
      refine (hon'.out _).mono ?_
      rintro e w1 ⟨rfl, rfl⟩
      go_wp2_with fail
      go_ret2
      exact ⟨⟨0, by rw [hV.out]; rfl, fun n hn => by rw [hV.out] at hn; cases hn⟩, Ext.refl _⟩
    | true =>
      have hV : Src.numF s.data.toList = some (Src.hexV h.data.toList) := by rw [hnum, if_neg (by simp [ha]; omega)]
      replace hV := hidden hV
      have hon' := hon.out
      rw [ha] at hon'
      replace hon' := hidden hon'
      have hlt := Src.hexV_lt n h.data.toList (by simpa using hn) ha
      have hle : 16 ^ n ≤ 16 ^ 8 := Nat.pow_le_pow_right (by decide) (by omega)
      rw [show (16 : Nat) ^ 8 = 4294967296 by decide] at hle
      obtain ⟨x, hx⟩ : ∃ x, Src.hexV h.data.toList = x := ⟨_, rfl⟩
      have hpo := pu_ok h 16 32 _ w _ (hpu.out (by omega) ha w)
      rw [hx] at hpo hlt hV
      have hX : Hid (Ext w (Lib.bytesWorld w 5 h)) := hidden (ext_bytes w h)
      obtain ⟨W, hW⟩ : ∃ W, Lib.bytesWorld w 5 h = W := ⟨_, rfl⟩
      rw [hW] at hpo hX
      have hxb : (x : Int) ≤ 4294967295 := by omega
      have vx : IntKind.i64.wrap (x : Int) = (x : Int) := IntWalk.i64_in _ (by omega)
      replace hpo := hidden hpo
      clear hnum hs hon hpu ha hlt hle hx hW
      replace hn := hidden hn
      go_enter Tryz.func76, Tryz.ntmps76
      go_wp2_with fail
      refine (hcut.out).mono ?_
      rintro e w1 ⟨rfl, rfl⟩
      go_wp2_with fail
      refine (hon'.out _).mono ?_
      rintro e w1 ⟨rfl, rfl⟩
      go_wp2_with fail
      refine (hpo.out).mono ?_
      rintro e w2 ⟨rfl, rfl⟩
      go_wp2_with fail
      go_region
      go_wp2_with fail
      go_ret2
      exact ⟨⟨(x : Int), by rw [hV.out]; rfl, fun n hn => by rw [hV.out] at hn; rw [Option.some.inj hn]⟩, hX.out.drew⟩
end Go.Proofs.YthjnchjfmbblfaaGreatDoor

/- number: decimal words. -/
namespace Go.Proofs.YthjnchjfmbblfaaGreatDoor
open Go.RowKit
set_option linter.unusedVariables false
set_option linter.unusedSimpArgs false
attribute [local go_sem ↓] Go.wp_at_zero Go.wp_at_succ

set_option maxHeartbeats 8000000 in
theorem number_dec (s : ByteArray) (hs : s.size ≤ 1000000) (w : World) (hE : ErrR w) (hp : Lib.hasPrefix s.data.toList [48, 120] = false) :
    Calls Tryz.prog 76 #[.string s] w (NumP s w) := by
  have hcut := cutprefix_any s ⟨#[48, 120]⟩ w
  unfold cutV at hcut
  rw [show (⟨#[48, 120]⟩ : ByteArray).data.toList = [48, 120] from rfl, hp] at hcut
  simp only [Bool.false_eq_true, if_false] at hcut
  have h2 : ¬ s.data.toList.take 2 = [48, 120] := of_decide_eq_false (by rw [← prefix_iff]; exact hp)
  obtain ⟨n, hn⟩ : ∃ n, s.size = n := ⟨_, rfl⟩
  have hlen : s.data.toList.length = n := by simpa using hn
  have hnum : Src.numF s.data.toList = if s.data.toList = [] ∨ 10 < n ∨ (1 < n ∧ s.data.toList.head? = some 48) ∨ s.data.toList.all Src.isDig = false then none else if Src.decV s.data.toList ≤ 4294967295 then some (Src.decV s.data.toList) else none := by
    unfold Src.numF
    rw [if_neg (fun h => h2 h.1), hlen]
  have hon := only_any s bDig hs
  rw [only_dig] at hon
  have hlw : ∀ w, (Builtin.len_ #[9] 3 #[.string s]).run Tryz.prog w = .ok (.int .i64 (n : Int)) w := by intro w; rw [run_len_string _ _ _ _ (by kernel_rfl), hn]; rfl
  unfold bDig at hon
  replace hcut := hidden hcut
  replace hon := hidden hon
  have hemp := emp_iff s
  rw [hn] at hemp hs
  have hnil : s.data.toList = [] ↔ n = 0 := ⟨fun h => by rw [← hlen, h]; rfl, fun h => List.eq_nil_of_length_eq_zero (by omega)⟩
  have hat : Hid (∀ k, k < n → ∃ c : UInt8, s.data.toList[k]? = some c ∧ ∀ w, (Instr.index 9 (.string s) (.int .i64 (k : Int))).run Tryz.prog w = .ok (.int .u8 ((c.toNat : Nat) : Int)) w) := hidden (fun k hk => str_at (by omega))
  clear hp h2
  by_cases h0 : n = 0
  · have hV : Src.numF s.data.toList = none := by rw [hnum, if_pos (Or.inl (hnil.2 h0))]
    rw [decide_eq_true h0] at hemp
    replace hV := hidden hV
    clear hnum hnil hs hlen
    replace hn := hidden hn
    go_enter Tryz.func76, Tryz.ntmps76
    go_wp2_with fail
    refine (hcut.out).mono ?_
    rintro e w1 ⟨rfl, rfl⟩
    go_wp2_with fail
    go_ret2
    exact ⟨⟨0, by rw [hV.out]; rfl, fun n hn => by rw [hV.out] at hn; cases hn⟩, Ext.refl _⟩
  · rw [decide_eq_false h0] at hemp
    by_cases h10 : 10 < n
    · have hV : Src.numF s.data.toList = none := by rw [hnum, if_pos (Or.inr (Or.inl h10))]
      have h10' : (10 : Int) < (n : Int) := by omega
      replace hV := hidden hV
      clear hnum hnil hs hlen
      replace hn := hidden hn
      go_enter Tryz.func76, Tryz.ntmps76
      go_wp2_with fail
      refine (hcut.out).mono ?_
      rintro e w1 ⟨rfl, rfl⟩
      go_wp2_with fail
      go_ret2
      exact ⟨⟨0, by rw [hV.out]; rfl, fun n hn => by rw [hV.out] at hn; cases hn⟩, Ext.refl _⟩
    · have h10' : ¬ (10 : Int) < (n : Int) := by omega
      obtain ⟨c, hget, hix⟩ := hat.out 0 (by omega)
      have hhd : s.data.toList.head? = some c := by rw [List.head?_eq_getElem?]; exact hget
      rw [hhd] at hnum
      have hnil' : ¬ s.data.toList = [] := fun h => h0 (hnil.1 h)
      simp only [hnil', h10, false_or, Option.some.injEq] at hnum
      have hix' : ∀ w, (Instr.index 9 (.string s) (.int .i64 0)).run Tryz.prog w = .ok (.int .u8 ((c.toNat : Nat) : Int)) w := hix
      clear hix hget hhd hnil hnil' hat
      by_cases hz : 1 < n ∧ c = 48
      · obtain ⟨h1, rfl⟩ := hz
        have h1' : (1 : Int) < (n : Int) := by omega
        have hV : Src.numF s.data.toList = none := by rw [hnum, if_pos (Or.inl ⟨h1, rfl⟩)]
        have hix2 : ∀ w, (Instr.index 9 (.string s) (.int .i64 0)).run Tryz.prog w = .ok (.int .u8 48) w := hix'
        replace hV := hidden hV
        clear hnum hs hlen hix'
        replace hn := hidden hn
        go_enter Tryz.func76, Tryz.ntmps76
        go_wp2_with fail
        refine (hcut.out).mono ?_
        rintro e w1 ⟨rfl, rfl⟩
        go_wp2_with fail
        go_ret2
        exact ⟨⟨0, by rw [hV.out]; rfl, fun n hn => by rw [hV.out] at hn; cases hn⟩, Ext.refl _⟩
      · have hnz : ¬ (1 < n ∧ c = 48) := hz
        simp only [hnz, false_or] at hnum
        have hcy : c ≠ 48 → ¬ ((c.toNat : Nat) : Int) = 48 := fun h he => h (UInt8.toNat_inj.1 (by show c.toNat = 48; omega))
        obtain ⟨y, hy⟩ : ∃ y, ((c.toNat : Nat) : Int) = y := ⟨_, rfl⟩
        rw [hy] at hix' hcy
        have key : ¬ (1 : Int) < (n : Int) ∨ ((1 : Int) < (n : Int) ∧ (y == 48) = false) := by
          by_cases h1 : 1 < n
          · exact Or.inr ⟨by omega, beq_eq_false_iff_ne.2 (hcy (fun h => hnz ⟨h1, h⟩))⟩
          · exact Or.inl (by omega)
        clear hnz hz hcy hy
        have hd10 : decide ((10 : Int) < (n : Int)) = false := decide_eq_false h10'
        cases ha : s.data.toList.all Src.isDig with
        | false =>
          have hV : Src.numF s.data.toList = none := by rw [hnum, if_pos ha]
          have hon' := hon.out
          rw [ha] at hon'
          replace hon' := hidden hon'
          replace hV := hidden hV
          clear hnum hs hlen ha hon
          replace hn := hidden hn
          rcases key with h1 | ⟨h1, h48⟩
          all_goals
            go_enter Tryz.func76, Tryz.ntmps76
            go_wp2_with fail
            refine (hcut.out).mono ?_
            rintro e w1 ⟨rfl, rfl⟩
            go_wp2_with fail
            refine (hon'.out _).mono ?_
            rintro e w1 ⟨rfl, rfl⟩
            go_wp2_with fail
            go_ret2
            exact ⟨⟨0, by rw [hV.out]; rfl, fun n hn => by rw [hV.out] at hn; cases hn⟩, Ext.refl _⟩
        | true =>
          have hon' := hon.out
          rw [ha] at hon'
          replace hon' := hidden hon'
          have hb := Tryz.internal_strconv_ParseUint_10_b32 s (by omega) (by omega) w
          have hX : Hid (Ext w (Lib.bytesWorld w 5 s)) := hidden (ext_bytes w s)
          obtain ⟨W, hW⟩ : ∃ W, Lib.bytesWorld w 5 s = W := ⟨_, rfl⟩
          rw [hW] at hX
          have hd := parse_digs s.data.toList 0 ha (by omega)
          have ed : s.data.toList.foldl (fun a c => a * 10 + (c.toNat - 48)) 0 = Src.decV s.data.toList := rfl
          rw [ed] at hd
          rw [if_neg (by rw [ha]; decide)] at hnum
          obtain ⟨x, hx⟩ : ∃ x, Src.decV s.data.toList = x := ⟨_, rfl⟩
          rw [hx] at hd hnum
          rcases hd with ⟨d1, d2⟩ | ⟨d1, d2⟩
          · rw [d1] at hb
            have hb' : Calls Tryz.prog 102 #[.string s, .int .i64 10, .int .i64 32] w fun e w' => e = .returned (.tuple #[.int .u64 (x : Int), .nilIface]) ∧ w' = W := by rw [← hW]; exact hb
            have hpo := pu_ok s 10 32 _ w _ hb'
            have hV : Src.numF s.data.toList = some x := by rw [hnum, if_pos d2]
            have hxb : (x : Int) ≤ 4294967295 := by omega
            have vx : IntKind.i64.wrap (x : Int) = (x : Int) := IntWalk.i64_in _ (by omega)
            replace hV := hidden hV
            replace hpo := hidden hpo
            clear hnum hs hlen ha hon hb hb' d1 d2 hx hW ed
            replace hn := hidden hn
            rcases key with h1 | ⟨h1, h48⟩
            all_goals
              go_enter Tryz.func76, Tryz.ntmps76
              go_wp2_with fail
              refine (hcut.out).mono ?_
              rintro e w1 ⟨rfl, rfl⟩
              go_wp2_with fail
              refine (hon'.out _).mono ?_
              rintro e w1 ⟨rfl, rfl⟩
              go_wp2_with fail

              refine (hpo.out).mono ?_
              rintro e w2 ⟨rfl, rfl⟩
              go_wp2_with fail
              go_region
              go_wp2_with fail
              go_ret2
              exact ⟨⟨(x : Int), by rw [hV.out]; rfl, fun n hn => by rw [hV.out] at hn; rw [Option.some.inj hn]⟩, hX.out.drew⟩
          · rw [d1] at hb
            have hb' : Calls Tryz.prog 102 #[.string s, .int .i64 10, .int .i64 32] w fun e w' => e = .returned (.tuple #[.int .u64 4294967295, .iface 160 (.int .i64 1)]) ∧ w' = W := by rw [← hW]; exact hb
            have hpo := pu_range s 10 32 _ w _ (by omega) hX.out hE hb'
            have hV : Src.numF s.data.toList = none := by rw [hnum, if_neg (by omega)]
            replace hV := hidden hV
            replace hpo := hidden hpo
            clear hnum hs hlen ha hon hb hb' d1 d2 hx hW ed
            replace hn := hidden hn
            rcases key with h1 | ⟨h1, h48⟩
            all_goals
              go_enter Tryz.func76, Tryz.ntmps76
              go_wp2_with fail
              refine (hcut.out).mono ?_
              rintro e w1 ⟨rfl, rfl⟩
              go_wp2_with fail
              refine (hon'.out _).mono ?_
              rintro e w1 ⟨rfl, rfl⟩
              go_wp2_with fail

              refine (hpo.out).mono ?_
              rintro e w2 ⟨⟨N, rfl⟩, hY⟩
              replace hY := hidden hY
              go_wp2_with fail
              go_region
              go_wp2_with fail
              go_ret2
              exact ⟨⟨4294967295, by rw [hV.out]; rfl, fun n hn => by rw [hV.out] at hn; cases hn⟩, hY.out.drew⟩
end Go.Proofs.YthjnchjfmbblfaaGreatDoor

/- number: every string. -/
namespace Go.Proofs.YthjnchjfmbblfaaGreatDoor
open Go.RowKit
set_option linter.unusedVariables false
set_option linter.unusedSimpArgs false
attribute [local go_sem ↓] Go.wp_at_zero Go.wp_at_succ

theorem number_0x (s : ByteArray) (hs : s = ⟨#[48, 120]⟩) (w : World) : Calls Tryz.prog 76 #[.string s] w (NumP s w) := by
  have hcut := cutprefix_any s ⟨#[48, 120]⟩ w
  rw [show cutV s ⟨#[48, 120]⟩ = .tuple #[.string ⟨#[]⟩, .bool true] by rw [hs]; rfl] at hcut
  have hV : Src.numF s.data.toList = none := by rw [hs]; decide
  have hlw : ∀ w, (Builtin.len_ #[9] 3 #[.string s]).run Tryz.prog w = .ok (.int .i64 2) w := by intro w; rw [run_len_string _ _ _ _ (by kernel_rfl), hs]; rfl
  have hix : ∀ w, (Instr.index 9 (.string s) (.int .i64 0)).run Tryz.prog w = .ok (.int .u8 48) w := by
    obtain ⟨c, h1, h2⟩ := str_at (s := s) (k := 0) (by rw [hs]; decide)
    rw [hs] at h1
    obtain rfl : 48 = c := Option.some.inj h1
    exact h2
  have hemp : s.toList.isEmpty = false := by rw [emp_iff, hs]; rfl
  replace hV := hidden hV
  replace hcut := hidden hcut
  clear hs
  go_enter Tryz.func76, Tryz.ntmps76
  go_wp2_with fail
  refine (hcut.out).mono ?_
  rintro e w1 ⟨rfl, rfl⟩
  go_wp2_with fail
  go_ret2
  exact ⟨⟨0, by rw [hV.out]; rfl, fun n hn => by rw [hV.out] at hn; cases hn⟩, Ext.refl _⟩
theorem number_any (s : ByteArray) (hs : s.size ≤ 1000000) (w : World) (hE : ErrR w) : Calls Tryz.prog 76 #[.string s] w (NumP s w) := by
  cases hp : Lib.hasPrefix s.data.toList [48, 120] with
  | false => exact number_dec s hs w hE hp
  | true =>
    by_cases hr : (s.extract 2 s.size).size = 0
    · refine number_0x s ?_ w
      have h2 : s.data.toList.take 2 = [48, 120] := of_decide_eq_true (by rw [← prefix_iff]; exact hp)
      have hd : s.data.toList.drop 2 = [] := by
        rw [← extract_tail]
        exact List.eq_nil_of_length_eq_zero (by simpa using hr)
      have : s.data.toList = [48, 120] := by rw [← List.take_append_drop 2 s.data.toList, h2, hd]; rfl
      obtain ⟨d⟩ := s
      obtain ⟨l⟩ := d
      have h3 : l = [48, 120] := this
      rw [h3]
    · exact number_hex s hs w hp hr
end Go.Proofs.YthjnchjfmbblfaaGreatDoor

/- demand: holds, or a panic with the place and the error. -/
namespace Go.Proofs.YthjnchjfmbblfaaGreatDoor
open Go.RowKit
set_option linter.unusedVariables false
set_option linter.unusedSimpArgs false
attribute [local go_sem ↓] Go.wp_at_zero Go.wp_at_succ

/-- The panic of a word that does not fit. -/
def failW (p e : Int) : Ending := .panicked [{ v := .iface 80 (.agg #[.int .i64 p, .int .i64 e]), recovered := false }]
theorem demand_true (t : ByteArray) (p e : Int) (w : World) : Calls Tryz.prog 56 #[.agg #[.string t, .int .i64 p], .bool true, .int .i64 e] w fun x w' => x = .returned (.tuple #[]) ∧ Ext w w' := by
  go_enter Tryz.func56, Tryz.ntmps56
  go_wp2_with fail
  go_end0
  exact ⟨rfl, (Ext.refl w).alloc _⟩
theorem demand_false (t : ByteArray) (p e : Int) (w : World) : Calls Tryz.prog 56 #[.agg #[.string t, .int .i64 p], .bool false, .int .i64 e] w fun x w' => x = failW p e ∧ Ext w w' := by
  have p0 := (Blk.new w [.string t, .int .i64 p] 86).cell 1 _ rfl
  go_enter Tryz.func56, Tryz.ntmps56
  go_wp2
  exact ⟨rfl, rfl, (Ext.refl w).alloc _⟩
end Go.Proofs.YthjnchjfmbblfaaGreatDoor
