/- bytes.Equal. -/
import Derived.Test.YtpfelklhejpnnaaHbd
import Derived.Lib.Bytealg
import Derived.Lib.BytesEntry
import Derived.Laws.BytesArg
import Derived.Laws.Externs
import Derived.Shelf.Bytes.SlSmallAll
namespace Go.Proofs.Ytpfelklhejpnnaa
open Go.RowKit
set_option linter.unusedVariables false

/-- string(..) of bytes that are read. -/
theorem rd8_conv {w : World} {a : Option Addr} {cap : Nat} {l : List Int} (h : Rd8 w (.slice a l.length cap) l) (src e dst : TypeId) (hs : Try.prog.underlying src = some (.slice e)) (he : Try.prog.underlying e = some (.int .u8)) (hd : Try.prog.underlying dst = some .string) :
    (convert src dst (.slice a l.length cap)).run Try.prog w = .ok (.string (strOfNums l)) w := by
  rcases Nat.eq_zero_or_pos l.length with hn | hn
  · obtain rfl : l = [] := List.eq_nil_of_length_eq_zero hn
    exact run_convert_bytes_zero w src e hs he a cap dst hd
  · obtain ⟨b, off, rfl, -, hc⟩ := Rd.cells h hn
    exact run_convert_bytes_arg (P := Try.prog) w src e hs he b off l.length cap l rfl (fun i hi => by rw [hc i (by rw [bs_len]; exact hi)]; simp [bs, List.getD, hi]) dst hd
theorem bytesOf_inj {a b : List Int} (ha : Bytes a) (hb : Bytes b) (h : Lib.bytesOf a = Lib.bytesOf b) : a = b := by
  induction a generalizing b with
  | nil => cases b with
    | nil => rfl
    | cons y b => simp [Lib.bytesOf] at h
  | cons x a ih =>
    cases b with
    | nil => simp [Lib.bytesOf] at h
    | cons y b =>
      simp only [Lib.bytesOf, List.map_cons, List.cons.injEq] at h
      have hx := ha x (by simp)
      have hy := hb y (by simp)
      have e := congrArg UInt8.toNat h.1
      simp only [UInt8.toNat_ofNat'] at e
      have : x = y := by omega
      rw [this, ih (fun z hz => ha z (by simp [hz])) (fun z hz => hb z (by simp [hz])) h.2]
theorem bequal_any (va vb : Value) (a b : List Int) (ha : Bytes a) (hb : Bytes b) (w : World) (h1 : Rd8 w va a) (h2 : Rd8 w vb b) :
    Calls Try.prog 11 #[va, vb] w fun e w' => e = .returned (.bool (decide (a = b))) ∧ Ext w w' := by
  obtain ⟨x, cap, rfl, p1, p2, p3⟩ := Rd.shape h1
  obtain ⟨y, dap, rfl, q1, q2, q3⟩ := Rd.shape h2
  have c1 := rd8_conv h1 22 5 9 Try.underlying22 Try.underlying5 Try.underlying9
  have c2 := rd8_conv h2 22 5 9 Try.underlying22 Try.underlying5 Try.underlying9
  obtain ⟨sa, hsa⟩ : ∃ s, strOfNums a = s := ⟨_, rfl⟩
  obtain ⟨sb, hsb⟩ : ∃ s, strOfNums b = s := ⟨_, rfl⟩
  have he : Hid ((sa.toList == sb.toList) = decide (a = b)) := by
    refine hidden ?_
    rw [Bool.eq_iff_iff, beq_iff_eq, decide_eq_true_iff, ← hsa, ← hsb, Lib.strOfNums_toList, Lib.strOfNums_toList]
    constructor
    · intro e
      exact bytesOf_inj ha hb e
    · intro e; rw [e]
  rw [hsa] at c1
  rw [hsb] at c2
  clear hsa hsb
  go_enter Try.func11, Try.ntmps11
  go_wp2_with fail
  go_ret
  exact ⟨ret_bool he.out, Ext.refl _⟩
end Go.Proofs.Ytpfelklhejpnnaa
