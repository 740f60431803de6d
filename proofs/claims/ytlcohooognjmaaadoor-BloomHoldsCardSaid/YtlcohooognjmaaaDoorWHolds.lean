/- The walk of BloomHolds (this claim's own lemmas). -/
import Derived.Test.YtlcohooognjmaaaDoorBlW
namespace Go.Proofs.YtlcohooognjmaaaDoor.BloomHolds
open Go.RowKit Go.Proofs.YtlcohooognjmaaaDoorW.PrintWords Go.Proofs.YtlcohooognjmaaaDoor.Own Go.Proofs.YtlcohooognjmaaaDoor.G Go.Proofs.YtlcohooognjmaaaDoor.Bl Go.Proofs.YtlcohooognjmaaaDoor.BlW
set_option linter.unusedVariables false
set_option maxHeartbeats 2000000 in
set_option maxRecDepth 100000 in
theorem walk_ (A0 : Option Addr) (c0 : Nat) (l0 : List ByteArray) (b : Int) (w : World) (hr0 : Rd Kd.string w A0 l0.length c0 l0) (hn : l0.length ≤ 9223372036854775807) (hs : ∀ s ∈ l0, s.size ≤ 9223372036854775807) (hb1 : -9223372036854775808 ≤ b) (hb2 : b ≤ 9223372036854775807) (hT : GT w) :
    Calls Tryd.prog 5 #[.slice A0 l0.length c0, .int .i64 b] w fun e w' => e = .returned (.bool true) ∧ Below w.heap.size w w' := by
  have HR := Aside0.mk hr0
  have HS := Aside0.mk hs
  have HT : Aside0 (Tab w) := ⟨hT⟩
  have HB1 := Aside0.mk hb1
  have HB2 := Aside0.mk hb2
  clear hr0 hs hT hb1 hb2
  go_enter Tryd.func5, Tryd.ntmps5
  go_wp2_with fail
  refine (cKnown HT.out).mono ?_
  rintro e w1 ⟨rfl, hb⟩
  have T1 := Aside0.mk (HT.out.step hb)
  have B1 : Aside0 (Bel w w1) := ⟨hb⟩
  have R1 := Aside0.mk (HR.out.step hb)
  clear hb HT HR
  go_wp2_with fail
  refine (cSome R1.out (by omega)).mono ?_
  rintro e w2 ⟨m, rfl, hm4, hmn, hrd, rfl⟩
  obtain ⟨ks, hks⟩ : ∃ ks, ks = l0.take m := ⟨_, rfl⟩
  rw [← hks] at hrd
  have R2 := Aside0.mk hrd
  have HKS : Aside0 (∀ s ∈ ks, s.size ≤ 9223372036854775807) := ⟨fun s hs => HS.out s (List.mem_of_mem_take (by rw [← hks]; exact hs))⟩
  have HKL := Aside0.mk hrd.1
  clear hrd hks R1 HS
  go_wp2_with fail
  refine (cMake R2.out (by omega) HKS.out HB1.out HB2.out T1.out).mono ?_
  rintro e w3 ⟨Af, nf, cf, f, rfl, hf, hfd, -, hb⟩
  have T3 := Aside0.mk (T1.out.step hb)
  have B3 := Aside0.mk (B1.out.step hb)
  have R3 := Aside0.mk (R2.out.step hb)
  have F3 := Aside0.mk hfd
  have HF := Aside0.mk hf
  have hff : Bytes f ∧ nf ≤ 131073 := by
    rw [← hfd.1, hf]
    unfold makeL
    split
    · exact ⟨by simp [Bytes], by simp⟩
    · have := places_ge ks.length (min b.toNat 16)
      exact ⟨make_bytes _ _ (by omega), by rw [make_len]; omega⟩
  obtain ⟨hff, hnf⟩ := hff
  have HFB := Aside0.mk hff
  have HZ : Aside0 (nf = 0 ↔ (b < 1 ∨ m = 0)) := ⟨by rw [← hfd.1, hf, ← HKL.out]; exact empty_iff ks b⟩
  clear hb hf hfd hff T1 B1 R2
  go_wp2_with fail
  go_loopw [6] (fun iv wr => ∃ j : Nat, j ≤ m ∧ iv = .int .i64 (j : Int) ∧ Aside0 (Tab wr) ∧ Aside0 (Bel w wr) ∧ Aside0 (Rd Kd.string wr A0 m c0 ks) ∧ Aside0 (Rd (Kd.int .u8) wr Af nf cf f)) (fun iv _ => m - (intOf iv).toNat)
  case atStart => exact ⟨0, by omega, rfl, T3, B3, R3, F3⟩
  case round =>
    clear T3 B3 R3 F3
    obtain ⟨j, hj, rfl, T, B, R, F⟩ := hrel
    by_cases hlt : j < m
    · obtain ⟨ad, e1, hcell⟩ := Kd.at_string R.out.2.2 (j : Int) (by omega) (by omega)
      cases e1
      rw [Int.toNat_natCast] at hcell
      have hjk : j < ks.length := by rw [HKL.out]; exact hlt
      obtain ⟨s, hs'⟩ : ∃ s, s = ks[j] := ⟨_, rfl⟩
      have hrd : rdOf ByteArray.empty ks (j : Int) = s := by rw [hs']; simp [rdOf, List.getD_eq_getElem?_getD, hjk]
      rw [hrd] at hcell
      have HM : Aside0 (mayL f s = true ∧ s.size ≤ 9223372036854775807) := ⟨by rw [HF.out, hs']; exact ⟨holds ks b _ (List.getElem_mem hjk), HKS.out _ (List.getElem_mem hjk)⟩⟩
      clear hrd hs' hjk
      have hcall := cMay F.out (by omega) HFB.out HM.out.2 T.out
      rw [HM.out.1] at hcall
      have HC := Aside0.mk hcall
      clear hcall
      go_wp2_with fail
      refine HC.out.mono ?_
      rintro e w4 ⟨rfl, hb⟩
      have T4 := Aside0.mk (T.out.step hb)
      have B4 := Aside0.mk (B.out.step hb)
      have R4 := Aside0.mk (R.out.step hb)
      have F4 := Aside0.mk (F.out.step hb)
      clear hb
      go_wp2_with fail
      exact ⟨⟨j + 1, by omega, by go_num, T4, B4, R4, F4⟩, by simp [intOf]; omega⟩
    · by_cases h1 : b < 1
      · have d1 : decide (b < 1) = true := decide_eq_true h1
        have d2 : ((nf : Int) == 0) = true := by rw [beq_iff_eq]; have := HZ.out.2 (.inl h1); omega
        have d3 : (nf == 0) = true := by rw [beq_iff_eq]; have := HZ.out.2 (.inl h1); omega
        go_wp2_with fail
        go_ret
        exact ⟨rfl, B.out⟩
      · have d1 : decide (b < 1) = false := decide_eq_false h1
        by_cases h0 : m = 0
        · have d2 : ((nf : Int) == 0) = true := by rw [beq_iff_eq]; have := HZ.out.2 (.inr h0); omega
          have d3 : (nf == 0) = true := by rw [beq_iff_eq]; have := HZ.out.2 (.inr h0); omega
          have d4 : ((m : Int) == 0) = true := by rw [beq_iff_eq]; omega
          have d5 : (m == 0) = true := by rw [beq_iff_eq]; omega
          clear h0
          go_wp2_with fail
          go_ret
          exact ⟨rfl, B.out⟩
        · have hz : nf ≠ 0 := fun e => by rcases HZ.out.1 e with h | h; exact h1 h; exact h0 h
          have d2 : ((nf : Int) == 0) = false := by rw [beq_eq_false_iff_ne]; omega
          have d3 : (nf == 0) = false := by rw [beq_eq_false_iff_ne]; omega
          have d4 : ((m : Int) == 0) = false := by rw [beq_eq_false_iff_ne]; omega
          have d5 : (m == 0) = false := by rw [beq_eq_false_iff_ne]; omega
          go_wp2_with fail
          go_ret
          exact ⟨rfl, B.out⟩
theorem walk (A0 : Option Addr) (c0 : Nat) (l0 : List ByteArray) {w' : World} (hr0 : Kd.C Kd.string w' A0 l0.length l0) (hc0 : l0.length ≤ c0) (hs : ∀ s ∈ l0, s.size ≤ 9223372036854775807) (b : Int) (hb : (Lit.int .i64 b).wf = true) (w : World) (hT : GT w) (e : w' = w := by rfl) :
    Calls Tryd.prog 5 #[.slice A0 l0.length c0, .int .i64 b] w fun e w' => e = .returned (.bool true) ∧ Below w.heap.size w w' := by
  subst e
  have hx' : -9223372036854775808 ≤ b ∧ b ≤ 9223372036854775807 := by simpa [Lit.wf, IntKind.min, IntKind.max, IntKind.signed, IntKind.bits] using hb
  exact walk_ A0 c0 l0 b _ ⟨rfl, hc0, hr0⟩ hr0.2.1 hs hx'.1 hx'.2 hT
end Go.Proofs.YtlcohooognjmaaaDoor.BloomHolds
