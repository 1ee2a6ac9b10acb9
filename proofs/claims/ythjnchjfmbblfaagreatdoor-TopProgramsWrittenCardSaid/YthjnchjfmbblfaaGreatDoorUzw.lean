/- TopSourcesSettled: the walk. -/
import Derived.Test.YthjnchjfmbblfaaGreatDoorUzv
namespace Go.Proofs.YthjnchjfmbblfaaGreatDoor
open Go.RowKit Go.ChangeMaps Go.MapKept
set_option linter.unusedVariables false
set_option linter.unusedSimpArgs false
attribute [local go_sem ↓] Go.wp_at_zero Go.wp_at_succ

theorem RInv.okA {s : Src.RS} (h : Src.RInv s) : OkA s.A := by
  intro x hx
  have h1 := h.a1 x hx
  have h2 := Src.sumA s.A
  have h3 : x.2 ≤ Src.sumA s.A := by
    obtain ⟨i, hi, rfl⟩ := List.mem_iff_getElem.1 hx
    have e := psA_succ (List.getElem?_eq_getElem hi)
    have b1 := psA_bd h.a1 i
    have b2 := psA_bd h.a1 (i + 1)
    omega
  have h4 := h.sm
  omega
theorem shapes {w : World} {vA vC : Value} {A : List (Bool × Int)} {C : List (Int × Int)} (rA : Arr w vA A) (rC : Cod w vC C) : ∃ a c b d, vA = .slice a A.length c ∧ vC = .slice b C.length d := by
  obtain ⟨a, c, h1, -⟩ := Rd.shape (show Rd w 2 vA A.length (A.flatMap cA) from rA)
  obtain ⟨b, d, h2, -⟩ := Rd.shape (show Rd w 2 vC C.length (C.flatMap cI) from rC)
  exact ⟨a, c, b, d, h1, h2⟩
set_option maxHeartbeats 16000000 in
set_option maxRecDepth 100000 in
theorem TopSourcesSettled_law (src : ByteArray) (w : World) (hErr : ErrR w) (hT : TabH w) :
    Calls Tryz.prog 3 #[.string src] w fun e w' => e = .returned (.bool true) ∧ Ext w w' := by
  obtain ⟨n, hn⟩ : ∃ n, src.size = n := ⟨_, rfl⟩
  have hls : ∀ w, (Builtin.len_ #[9] 3 #[.string src]).run Tryz.prog w = .ok (.int .i64 (n : Int)) w := by intro w; rw [run_len_string _ _ _ _ (by kernel_rfl), hn]; rfl
  by_cases hbig : 600 < n
  · have hb : (600 : Int) < (n : Int) := by omega
    clear hErr hT
    go_enter Tryz.func3, Tryz.ntmps3
    go_wp2_with fail
    go_ret
    exact ⟨rfl, Ext.refl _⟩
  · have hb : ¬ (600 : Int) < (n : Int) := by omega
    have hs0 : src.size ≤ 1000000 := by omega
    have hasm := assemble_any src hs0 w hErr
    have hnam := fun W (hW : Ext w W) => names_any src hs0 W (hErr.ext hW)
    obtain ⟨L, hL⟩ : ∃ L, src.data.toList = L := ⟨_, rfl⟩
    rw [hL] at hasm
    simp only [hL] at hnam
    unfold AsmR at hasm
    unfold NamR at hnam
    replace hn := hidden hn
    clear hs0 hbig hL
    cases hR : Src.readF L with
    | error c =>
      rw [hR] at hasm
      have hne := readF_err hR
      have hne' : (c.2 != 0) = true := by simpa using hne
      simp only at hasm
      obtain ⟨c1, c2⟩ := c
      simp only at hne' hasm
      replace hasm := hidden hasm
      clear hnam hR hne hErr hT
      go_enter Tryz.func3, Tryz.ntmps3
      go_wp2_with fail
      refine hasm.out.mono ?_
      rintro x w1 ⟨rfl, X1⟩
      have HB := Blk.new w1 [.slice none 0 0, .int .i64 0, .slice none 0 0] 25
      have p2 := HB.cell 2 _ rfl
      go_wp2_with fail
      go_ret
      exact ⟨rfl, X1.alloc _⟩
    | ok s =>
      rw [hR] at hasm
      simp only [hR] at hnam
      simp only at hasm
      have hI := Src.readF_inv hR
      have hprt := Src.source_print hR
      obtain ⟨A, hA⟩ : ∃ A, s.A = A := ⟨_, rfl⟩
      obtain ⟨C, hC⟩ : ∃ C, s.C = C := ⟨_, rfl⟩
      obtain ⟨nl, hnl⟩ : ∃ n, s.loc.length = n := ⟨_, rfl⟩
      have hokA := RInv.okA hI
      have hokC := hI.okI
      have hna := hI.na
      have ha8 := hI.a8
      have hl16 := hI.l16
      have hc0 := hI.c0
      rw [hA] at hasm hprt hokA hna ha8
      rw [hC] at hasm hprt hokC hc0
      rw [hnl] at hasm hprt hl16
      simp only [hna, hnl] at hnam
      have hpr := fun vA vC W (hW : Ext w W) (rA : Arr W vA A) (rC : Cod W vC C) => print_any vA vC A (nl : Int) C hokA hokC (by omega) (by omega) W rA rC (hT.ext hW)
      replace hpr := hidden hpr
      replace hnam := hidden hnam
      replace hasm := hidden hasm
      clear hokA hokC hI hR hA hC hnl hna
      go_enter Tryz.func3, Tryz.ntmps3
      go_wp2_with fail
      refine hasm.out.mono ?_
      rintro x w1 ⟨vA, vC, rfl, rA, rC, X1⟩
      obtain ⟨aA, kA, aC, kC, rfl, rfl⟩ := shapes rA rC
      have HB := Blk.new w1 [.slice aA A.length kA, .int .i64 (nl : Int), .slice aC C.length kC] 25
      have XB : Ext w1 (w1.alloc (.cells #[.slice aA A.length kA, .int .i64 (nl : Int), .slice aC C.length kC] 25)) := (Ext.refl w1).alloc _
      obtain ⟨w2, hw2⟩ : ∃ w2, w1.alloc (.cells #[.slice aA A.length kA, .int .i64 (nl : Int), .slice aC C.length kC] 25) = w2 := ⟨_, rfl⟩
      obtain ⟨q, hq⟩ : ∃ q, w1.heap.size = q := ⟨_, rfl⟩
      rw [hq] at HB
      have hp1 := hpr.out _ _ w2 (X1.trans (by rw [← hw2]; exact XB)) (by rw [← hw2]; exact Rd.ext rA XB) (by rw [← hw2]; exact Rd.ext rC XB)
      have rA2 : Arr w2 (.slice aA A.length kA) A := by rw [← hw2]; exact Rd.ext rA XB
      have rC2 : Cod w2 (.slice aC C.length kC) C := by rw [← hw2]; exact Rd.ext rC XB
      rw [hw2] at HB XB
      have X2 := hidden (X1.trans XB)
      obtain ⟨nA, hnA⟩ : ∃ n, A.length = n := ⟨_, rfl⟩
      obtain ⟨nC, hnC⟩ : ∃ n, C.length = n := ⟨_, rfl⟩
      rw [hnA, hnC] at hp1 HB
      rw [hnA] at rA2 ha8
      rw [hnC] at rC2 hprt hc0
      simp only [hnA] at hnam
      rw [hnA, hnC] at hw2
      rw [hnA, hnC]
      have p0 := HB.cell 0 _ rfl
      have p1 := HB.cell 1 _ rfl
      have p2 := HB.cell 2 _ rfl
      replace hp1 := hidden hp1
      replace rA2 := hidden rA2
      replace rC2 := hidden rC2
      replace HB := hidden HB
      replace hnA := hidden hnA
      replace hnC := hidden hnC
      clear X1 rA rC XB
      go_wp2_with fail
      refine hp1.out.mono ?_
      unfold PrintR
      rintro x w3 ⟨rfl, X3⟩
      rcases hprt with ⟨hpf, hrt⟩ | ⟨hpf, h40⟩
      · rw [hpf]
        simp only
        obtain ⟨tx, htx⟩ : ∃ l, Src.textP A (nl : Int) C = l := ⟨_, rfl⟩
        have htlen : tx.length ≤ 8192 := by
          have h0 : (Src.printF A (nl : Int) C).2 = 0 := by rw [hpf]
          rw [← htx]
          exact (Src.print_ok h0).2.2.1
        rw [htx] at hrt hpf
        rw [htx]
        have hrs : ∃ s2 : Src.RS, Src.readF tx = .ok s2 ∧ s2.A = A ∧ s2.C = C ∧ s2.loc.length = nl ∧ s2.arr.length = nA := ⟨_, hrt, rfl, rfl, by simp [Src.rsAt], by rw [← hnA.out]; simp [Src.rsAt]⟩
        obtain ⟨s2, hr2, e1, e2, e3, e4⟩ := hrs
        have hsz : (ba tx).size ≤ 1000000 := by show tx.toArray.size ≤ _; simp; omega
        have has2 := fun W (hW : Ext w W) => assemble_any (ba tx) hsz W (hErr.ext hW)
        have hnm2 := fun W (hW : Ext w W) => names_any (ba tx) hsz W (hErr.ext hW)
        rw [show (ba tx).data.toList = tx from rfl] at has2 hnm2
        unfold AsmR at has2
        unfold NamR at hnm2
        rw [hr2] at has2 hnm2
        simp only [e1, e2, e3, e4] at has2 hnm2
        have hsame := fun vA vC W (hW : Ext w2 W) (rA : Arr W vA A) (rC : Cod W vC C) => same_any (.slice aA nA kA) (.slice aC nC kC) vA vC A (nl : Int) C (by rw [hnA.out]; omega) (by rw [hnC.out]; omega) W (Rd.ext rA2.out hW) (Rd.ext rC2.out hW) rA rC
        have hpr2 := hpr.out
        unfold PrintR at hpr2
        simp only [hpf] at hpr2
        obtain ⟨TX, hTX⟩ : ∃ t, ba tx = t := ⟨_, rfl⟩
        simp only [hTX] at has2 hnm2 hpr2
        rw [hTX]
        replace has2 := hidden has2
        replace hnm2 := hidden hnm2
        replace hpr2 := hidden hpr2
        replace hsame := hidden hsame
        have hteq : (TX == TX) = true := (bytes_beq TX TX).2 rfl
        have q0 := (HB.out.ext X3).cell 0 _ rfl
        have q1 := (HB.out.ext X3).cell 1 _ rfl
        have q2 := (HB.out.ext X3).cell 2 _ rfl
        have hX3 := hidden (X2.out.trans X3)
        have hY3 := hidden X3
        clear X3 hpf hrt hr2 e1 e2 e3 e4 htx htlen hsz hErr hT hpr p0 p1 p2
        go_wp2_with fail
        refine (has2.out w3 hX3.out).mono ?_
        rintro x w4 ⟨vB, vD, rfl, rB, rD, X4⟩
        obtain ⟨aB, kB, aD, kD, rfl, rfl⟩ := shapes rB rD
        rw [hnA.out, hnC.out]
        have HC := Blk.new w4 [.slice aB nA kB, .int .i64 (nl : Int), .slice aD nC kD] 25
        have XC : Ext w4 (w4.alloc (.cells #[.slice aB nA kB, .int .i64 (nl : Int), .slice aD nC kD] 25)) := (Ext.refl w4).alloc _
        obtain ⟨w5, hw5⟩ : ∃ w5, w4.alloc (.cells #[.slice aB nA kB, .int .i64 (nl : Int), .slice aD nC kD] 25) = w5 := ⟨_, rfl⟩
        obtain ⟨q', hq'⟩ : ∃ q, w4.heap.size = q := ⟨_, rfl⟩
        rw [hq'] at HC
        rw [hw5] at HC XC
        rw [hnA.out] at rB
        rw [hnC.out] at rD
        have rB5 := hidden (Rd.ext rB XC)
        have rD5 := hidden (Rd.ext rD XC)
        have Y5 := hidden ((hY3.out.trans X4).trans XC)
        have Z5 := hidden ((hX3.out.trans X4).trans XC)
        have c0 := HC.cell 0 _ rfl
        have c1 := HC.cell 1 _ rfl
        have c2 := HC.cell 2 _ rfl
        have hp5 := hidden (hpr2.out (.slice aB nA kB) (.slice aD nC kD) w5 Z5.out rB5.out rD5.out)
        replace HC := hidden HC
        clear X4 XC rB rD q0 q1 q2
        go_wp2_with fail
        refine hp5.out.mono ?_
        rintro x w6 ⟨rfl, X6⟩
        have Y6 := hidden (Y5.out.trans X6)
        have Z6 := hidden (Z5.out.trans X6)
        have C6 := hidden (HC.out.ext X6)
        have V6 := hidden X6
        clear X6 c0 c1 c2
        go_wp2_with fail
        refine (hnam.out w6 Z6.out).mono ?_
        rintro x w7 ⟨l1, k1, rfl, X7⟩
        have Z7 := hidden (Z6.out.trans X7)
        have V7 := hidden X7
        clear X7
        go_wp2_with fail
        refine (hnm2.out w7 Z7.out).mono ?_
        rintro x w8 ⟨l2, k2, rfl, X8⟩
        have W8 := hidden ((V6.out.trans V7.out).trans X8)
        have Z8 := hidden (Z7.out.trans X8)
        have Y8 := hidden ((Y6.out.trans V7.out).trans X8)
        have D8 := HB.out.ext Y8.out
        have C8 := HC.out.ext W8.out
        have d0 := D8.cell 0 _ rfl
        have d1 := D8.cell 1 _ rfl
        have d2 := D8.cell 2 _ rfl
        have c0 := C8.cell 0 _ rfl
        have c1 := C8.cell 1 _ rfl
        have c2 := C8.cell 2 _ rfl
        have hs8 := hidden (hsame.out (.slice aB nA kB) (.slice aD nC kD) w8 Y8.out (Rd.ext rB5.out W8.out) (Rd.ext rD5.out W8.out))
        clear X8 D8 C8
        go_wp2_with fail
        refine hs8.out.mono ?_
        rintro x w9 ⟨rfl, X9⟩
        have f0 := X9.cell d0
        have f1 := X9.cell d1
        have f2 := X9.cell d2
        have hwr : IntKind.i64.wrap ((nA : Int) + (nl : Int)) = (nA : Int) + (nl : Int) := IntWalk.i64_in _ (by omega)
        have hc1 : ((nA + nl : Nat) : Int) = (nA : Int) + (nl : Int) := by omega
        have hZ9 := hidden (Z8.out.trans X9)
        clear d0 d1 d2 c0 c1 c2 X9
        go_wp2_with fail
        go_ret
        exact ⟨rfl, hZ9.out⟩
      · rw [hpf]
        have h41 : (40 : Int) < (nC : Int) := by omega
        have q2 := X3.cell p2
        have hX3 := hidden (X2.out.trans X3)
        clear X3 hpf h40 p0 p1 p2
        go_wp2_with fail
        go_ret
        exact ⟨rfl, hX3.out⟩
end Go.Proofs.YthjnchjfmbblfaaGreatDoor
