/- bytes.Equal and bytes.Compare at slices that are read as lists. -/
import Derived.Test.YtfebgcbkadmgiaaB8
import Derived.Test.YtfebgcbkadmgiaaSfa
import Derived.Lib.Bytealg
import Derived.Lib.BytesEntry
import Derived.Laws.BytesArg
import Derived.Laws.Externs
import Derived.Shelf.Bytes.SlSmallAll
namespace Go.Proofs.Ytfebgcbkadmgiaa
open Go.RowKit
set_option linter.unusedVariables false

/-- Which of two lists of bytes comes first. -/
def cmpL : List Int → List Int → Int
  | [], [] => 0
  | [], _ :: _ => -1
  | _ :: _, [] => 1
  | x :: a, y :: b => if x < y then -1 else if y < x then 1 else cmpL a b
theorem cmpL_lt : ∀ a b : List Int, cmpL a b < 0 ↔ Suf.lt a b = true
  | [], [] => by simp [cmpL, Suf.lt]
  | [], _ :: _ => by simp [cmpL, Suf.lt]
  | _ :: _, [] => by simp [cmpL, Suf.lt]
  | x :: a, y :: b => by
    have ih := cmpL_lt a b
    rw [Suf.lt_cons]
    unfold cmpL
    by_cases h1 : x < y
    · rw [if_pos h1, if_pos h1]; simp
    · rw [if_neg h1, if_neg h1]
      by_cases h2 : y < x
      · rw [if_pos h2, if_pos h2]; simp
      · rw [if_neg h2, if_neg h2]; exact ih
/-- string(..) of bytes that are read. -/
theorem rd8_conv {w : World} {a : Option Addr} {cap : Nat} {l : List Int} (h : Rd8 w (.slice a l.length cap) l) (src e dst : TypeId) (hs : Try.prog.underlying src = some (.slice e)) (he : Try.prog.underlying e = some (.int .u8)) (hd : Try.prog.underlying dst = some .string) :
    (convert src dst (.slice a l.length cap)).run Try.prog w = .ok (.string (strOfNums l)) w := by
  rcases Nat.eq_zero_or_pos l.length with hn | hn
  · obtain rfl : l = [] := List.eq_nil_of_length_eq_zero hn
    exact run_convert_bytes_zero w src e hs he a cap dst hd
  · obtain ⟨b, off, rfl, -, hc⟩ := Rd.cells h hn
    exact run_convert_bytes_arg (P := Try.prog) w src e hs he b off l.length cap l rfl (fun i hi => by rw [hc i (by rw [bs_len]; exact hi)]; simp [bs, List.getD, hi]) dst hd
theorem bytesOf_inj {a b : List Int} (ha : Bytes a) (hb : Bytes b) (h : Lib.bytesOf a = Lib.bytesOf b) : a = b := by
  induction a generalizing b with
  | nil => cases b with
    | nil => rfl
    | cons y b => simp [Lib.bytesOf] at h
  | cons x a ih =>
    cases b with
    | nil => simp [Lib.bytesOf] at h
    | cons y b =>
      simp only [Lib.bytesOf, List.map_cons, List.cons.injEq] at h
      have hx := ha x (by simp)
      have hy := hb y (by simp)
      have e := congrArg UInt8.toNat h.1
      simp only [UInt8.toNat_ofNat'] at e
      have : x = y := by omega
      rw [this, ih (fun z hz => ha z (by simp [hz])) (fun z hz => hb z (by simp [hz])) h.2]
theorem cmp_bytes (a b : List Int) (ha : Bytes a) (hb : Bytes b) : Lib.compareBytes (Lib.bytesOf a) (Lib.bytesOf b) = cmpL a b := by
  induction a generalizing b with
  | nil => cases b <;> rfl
  | cons x a ih =>
    cases b with
    | nil => rfl
    | cons y b =>
      have hx := ha x (by simp)
      have hy := hb y (by simp)
      have ih := ih b (fun z hz => ha z (by simp [hz])) (fun z hz => hb z (by simp [hz]))
      simp only [Lib.bytesOf] at ih ⊢
      simp only [List.map_cons, Lib.compareBytes, cmpL, ih]
      have e1 : (UInt8.ofNat x.toNat < UInt8.ofNat y.toNat) ↔ x < y := by
        rw [UInt8.lt_iff_toNat_lt, UInt8.toNat_ofNat', UInt8.toNat_ofNat']; omega
      have e2 : (UInt8.ofNat y.toNat < UInt8.ofNat x.toNat) ↔ y < x := by
        rw [UInt8.lt_iff_toNat_lt, UInt8.toNat_ofNat', UInt8.toNat_ofNat']; omega
      simp only [e1, e2]

/-- The built-in comparison, at two slices that are read. -/
theorem run_compare (va vb : Value) (a b : List Int) (ha : Bytes a) (hb : Bytes b) (w : World) (h1 : Rd8 w va a) (h2 : Rd8 w vb b) :
    (Extern.BytealgCompare.compare #[va, vb]).run Try.prog w = .ok (.int .i64 (cmpL a b)) w := by
  have key : ∀ (v : Value) (l : List Int), Rd8 w v l → (Extern.Bytes.bytesOf v).run Try.prog w = .ok (⟨(Lib.bytesOf l).toArray⟩ : ByteArray) w := by
    intro v l h
    obtain ⟨x, cap, rfl, h1, h2, h3⟩ := Rd.shape h
    cases x with
    | none =>
      have : l.length = 0 := by have := h3 rfl; omega
      obtain rfl : l = [] := List.eq_nil_of_length_eq_zero this
      rfl
    | some ad =>
      have hl := Lib.run_loadBytesX (P := Try.prog) w l ad .empty (fun j x hj => Rd.news h j _ (by unfold bs; rw [List.getElem?_map, hj]; rfl))
      show (Extern.Bytes.loadBytes ad l.length .empty).run Try.prog w = _
      rw [hl]
      congr 1
      apply ByteArray.ext
      show (#[] : Array UInt8) ++ (Lib.bytesOf l).toArray = (Lib.bytesOf l).toArray
      simp
  change Sem.run Try.prog (do pure (goInt (Extern.BytealgCompare.cmp (← Extern.Bytes.bytesOf va) (← Extern.Bytes.bytesOf vb)))) w = _
  simp only [Sem.run_bind, Sem.run_pure, Result.andThen, key va a h1, key vb b h2]
  rw [Lib.cmp_eq]
  show Result.ok (goInt (Lib.compareBytes (Lib.bytesOf a) (Lib.bytesOf b))) w = _
  rw [cmp_bytes a b ha hb]
  rfl

theorem bcompare_any (va vb : Value) (a b : List Int) (ha : Bytes a) (hb : Bytes b) (w : World) (h1 : Rd8 w va a) (h2 : Rd8 w vb b) :
    Calls Try.prog 8 #[va, vb] w fun e w' => e = .returned (.int .i64 (cmpL a b)) ∧ Ext w w' := by
  have hr := run_compare va vb a b ha hb w h1 h2
  obtain ⟨x, cap, rfl, p1, p2, p3⟩ := Rd.shape h1
  obtain ⟨y, dap, rfl, q1, q2, q3⟩ := Rd.shape h2
  go_enter Try.func8, Try.ntmps8
  go_wp2_with fail
  rw [run_callFunc_extern Try.func21 (by kernel_rfl) (by kernel_rfl) (by kernel_rfl) (e := Extern.BytealgCompare.compare) (by kernel_rfl), hr]
  simp only [Result.andThen]
  rw [Oper.upon_value]
  go_wp2_with fail
  go_ret
  exact ⟨rfl, Ext.refl _⟩

theorem bequal_any (va vb : Value) (a b : List Int) (ha : Bytes a) (hb : Bytes b) (w : World) (h1 : Rd8 w va a) (h2 : Rd8 w vb b) :
    Calls Try.prog 10 #[va, vb] w fun e w' => e = .returned (.bool (decide (a = b))) ∧ Ext w w' := by
  obtain ⟨x, cap, rfl, p1, p2, p3⟩ := Rd.shape h1
  obtain ⟨y, dap, rfl, q1, q2, q3⟩ := Rd.shape h2
  have c1 := rd8_conv h1 22 5 9 Try.underlying22 Try.underlying5 Try.underlying9
  have c2 := rd8_conv h2 22 5 9 Try.underlying22 Try.underlying5 Try.underlying9
  obtain ⟨sa, hsa⟩ : ∃ s, strOfNums a = s := ⟨_, rfl⟩
  obtain ⟨sb, hsb⟩ : ∃ s, strOfNums b = s := ⟨_, rfl⟩
  have he : Hid ((sa.toList == sb.toList) = decide (a = b)) := by
    refine hidden ?_
    rw [Bool.eq_iff_iff, beq_iff_eq, decide_eq_true_iff, ← hsa, ← hsb, Lib.strOfNums_toList, Lib.strOfNums_toList]
    constructor
    · intro e
      exact bytesOf_inj ha hb e
    · intro e; rw [e]
  rw [hsa] at c1
  rw [hsb] at c2
  clear hsa hsb
  go_enter Try.func10, Try.ntmps10
  go_wp2_with fail
  go_ret
  exact ⟨ret_bool he.out, Ext.refl _⟩
end Go.Proofs.Ytfebgcbkadmgiaa
