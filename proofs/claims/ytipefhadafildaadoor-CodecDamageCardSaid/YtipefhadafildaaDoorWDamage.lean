/- The walk of CodecDamage (this claim's own lemmas). -/
import Derived.Test.YtipefhadafildaaDoorWrapB
import Derived.Test.YtipefhadafildaaDoorLawE
import Derived.Deep.DeepCutAuto
import Derived.Deep.CutBlock
import Derived.Deep.RegionHeld3
namespace Go.Proofs.YtipefhadafildaaDoor.CodecDamage
open Go.RowKit Go.Proofs.YtipefhadafildaaDoorW.PrintWords Go.Proofs.YtipefhadafildaaDoor.Own Go.Proofs.YtipefhadafildaaDoor.WrapB Go.Proofs.YtipefhadafildaaDoor.G
set_option linter.unusedVariables false
/-- What holds along the walk: the table, the older memory, the list that is read. -/
structure Now (w W : World) (A : Option Addr) (n c : Nat) (l : List Int) : Prop where
  tab : Tab W
  bel : Bel w W
  rd : Rd W A n c l
theorem Now.step {w W W' : World} {A : Option Addr} {n c : Nat} {l : List Int} (h : Now w W A n c l) (hb : Below W.heap.size W W') : Now w W' A n c l := ⟨h.tab.step hb, h.bel.step hb, h.rd.step hb⟩
theorem frame_len (l : List Int) (hl : l.length ≤ 262144) : (frameL l).length ≤ 262158 ∧ (frameL l).length = (numL l.length).length + l.length + 4 := by
  have h10 := numL_len10 (n := l.length) (by omega)
  have h : (frameL l).length = (numL l.length).length + l.length + 4 := by unfold frameL; simp only [List.length_append, four_len]
  exact ⟨by omega, h⟩
theorem turn_eq (l : List Int) (k P j : Nat) : l.set ((k + (P + j) / 8 : Nat) : Int).toNat (bits .xor .u8 (rdOf (0 : Int) l ((k : Int) + ((P : Int) + (j : Int)) / 8)) ((2 : Int) ^ ((P + j) % 8) % 256)) = l.set ((8 * k + P + j) / 8) (bits .xor .u8 (rd l (((8 * k + P + j) / 8 : Nat) : Int)) ((2 ^ ((8 * k + P + j) % 8) : Nat) : Int)) := by
  rw [Int.toNat_natCast, show (8 * k + P + j) / 8 = k + (P + j) / 8 by omega, show (8 * k + P + j) % 8 = (P + j) % 8 by omega, show ((k : Int) + ((P : Int) + (j : Int)) / 8) = ((k + (P + j) / 8 : Nat) : Int) by omega]
  have : (P + j) % 8 = 0 ∨ (P + j) % 8 = 1 ∨ (P + j) % 8 = 2 ∨ (P + j) % 8 = 3 ∨ (P + j) % 8 = 4 ∨ (P + j) % 8 = 5 ∨ (P + j) % 8 = 6 ∨ (P + j) % 8 = 7 := by omega
  rcases this with e | e | e | e | e | e | e | e <;> rw [e] <;> rfl
theorem low_zero (T m i : Nat) (h : T % 2 ^ m = 0) (hi : i < m) : T / 2 ^ i % 2 = 0 := by
  have h1 : (T % 2 ^ m).testBit i = T.testBit i := by rw [Nat.testBit_mod_two_pow]; simp [hi]
  rw [h, Nat.zero_testBit] at h1
  rw [bit_of, ← h1]
  rfl
theorem same_bits {l f : List Int} (hl : Bytes l) (hf : Bytes f) (hlen : l.length = f.length) (h : ∀ q, q < 8 * l.length → bitAt l q = bitAt f q) : l = f := by
  apply List.ext_getElem hlen
  intro i h1 h2
  obtain ⟨a, ha⟩ := Int.eq_ofNat_of_zero_le (bytes_rd hl i h1).1
  obtain ⟨b, hb⟩ := Int.eq_ofNat_of_zero_le (bytes_rd hf i h2).1
  have ha2 := (bytes_rd hl i h1).2
  have hb2 := (bytes_rd hf i h2).2
  have he : a = b := bits_byte (by omega) (by omega) (fun j hj => by
    have hq := h (8 * i + j) (by omega)
    unfold bitAt at hq
    rw [show (8 * i + j) / 8 = i by omega, show (8 * i + j) % 8 = j by omega, ha, hb] at hq
    exact hq)
  rw [he, ← hb] at ha
  simp only [rd, Int.toNat_natCast, List.getD_eq_getElem?_getD, List.getElem?_eq_getElem h1, List.getElem?_eq_getElem h2, Option.getD_some] at ha
  exact ha
theorem own_block {W : World} {base n c : Nat} {ok : Nat → Prop} {A : Option Addr} {l : List Int} (h : Kd.R (Kd.int .u8) 5 W base ok (.slice A n c) l) (hn : 0 < n) : ∃ g, A = some ⟨g, 0, none⟩ ∧ base ≤ g := by
  obtain ⟨inner, hi⟩ := Kd.R_own h
  have hl := (Kd.R_reads' h).1
  obtain ⟨_, hh⟩ := hi
  rcases hh with ⟨hv, h0⟩ | ⟨g, cap, cur, hv, hb, _⟩
  · omega
  · injection hv with e1
    exact ⟨g, e1, hb⟩
set_option maxHeartbeats 16000000 in
set_option maxRecDepth 100000 in
theorem walk_ (A0 : Option Addr) (c0 : Nat) (l0 : List Int) (m : Int) (T : Nat) (w : World) (hr0 : Rd w A0 l0.length c0 l0) (hl : Bytes l0) (hlen : l0.length ≤ 140737488351232) (hm1 : -9223372036854775808 ≤ m) (hm2 : m ≤ 9223372036854775807) (hTT : T < 4294967296) (hT : GT w) :
    Calls Tryd.prog 5 #[.slice A0 l0.length c0, .int .i64 m, .int .u32 (T : Int)] w fun e w' => e = .returned (.bool true) ∧ Below w.heap.size w w' := by
  have hc0 := hr0.2.1
  have S : Aside0 (Now w w A0 l0.length c0 l0) := ⟨⟨hT, Below.refl _ _, hr0⟩⟩
  have HL := Aside0.mk hl
  have HM1 := Aside0.mk hm1
  have HM2 := Aside0.mk hm2
  have HTT := Aside0.mk hTT
  have HTw := Aside0.mk hT
  have hr0q := Aside0.mk hr0
  clear hr0 hl hT hTT
  go_enter Tryd.func5, Tryd.ntmps5
  go_wp2_with fail
  refine (cKnown S.out.tab).mono ?_
  rintro e w0 ⟨rfl, hb⟩
  have S1 := Aside0.mk (S.out.step hb)
  clear hb S
  go_wp2_with fail
  refine (cPart S1.out.rd (by omega)).mono ?_
  rintro e w1 ⟨n, rfl, hn, hnn, hp, -, hb⟩
  obtain ⟨lb, hlb⟩ : ∃ lb, lb = l0.take n := ⟨_, rfl⟩
  rw [← hlb] at hp
  have hlbq := hlb
  have S2 : Aside0 (Now w w1 A0 n c0 lb) := ⟨⟨S1.out.tab.step hb, S1.out.bel.step hb, hp⟩⟩
  have HLB : Aside0 (Bytes lb) := ⟨fun y hy => HL.out y (List.mem_of_mem_take (by rw [← hlb]; exact hy))⟩
  have hln : lb.length = n := hp.1
  clear hp hb S1 hlb
  go_wp2_with fail
  refine (cFrame S2.out.rd (by omega) HLB.out S2.out.tab).mono ?_
  rintro e w2 ⟨Af, nf, cf, rf, rfl, hf, hdf, hRf, hb⟩
  have S3 := Aside0.mk (S2.out.step hb)
  have S2b : Aside0 (Bel w w1) := ⟨S2.out.bel⟩
  have RF := Aside0.mk hdf
  have HRF := Aside0.mk hRf
  have hlf := frame_len lb (by omega)
  have hnf : rf.length = nf := hdf.1
  rw [hf] at hnf
  have HF := Aside0.mk hf
  have hk10 := numL_len10 (n := lb.length) (by omega)
  have hk1 := numL_pos lb.length
  obtain ⟨k, hk⟩ : ∃ k, k = (numL lb.length).length := ⟨_, rfl⟩
  rw [← hk] at hlf hk10 hk1
  have HK := Aside0.mk hk
  obtain ⟨hlf1, hlf2⟩ := hlf
  have hFB : Bytes (frameL lb) := bytes_app (bytes_app (numL_bytes _) HLB.out) (bytes_four (sumF_range (bytes_app (numL_bytes _) HLB.out)))
  have HFB := Aside0.mk hFB
  have hu : uintN rf = (lb.length, k, 0) := by rw [HF.out, hk]; unfold frameL; rw [List.append_assoc]; exact uintN_numL _ _ (by omega)
  clear hf hdf hRf hb S2 hFB hk
  go_wp2_with fail
  refine (cUint RF.out (by omega) (by rw [HF.out]; exact HFB.out) hu).mono ?_
  rintro e w3 ⟨rfl, hb⟩
  have S4 := Aside0.mk (S3.out.step hb)
  have RF4 := Aside0.mk (RF.out.step hb)
  have HRF4 : Aside0 (Kd.R (Kd.int .u8) 5 w3 w.heap.size (fun _ => True) (.slice Af nf cf) rf) := ⟨Kd.R_below (Kd.R_lower HRF.out S2b.out.size) hb⟩
  clear hb S3 RF HRF hu
  have dk1 : decide ((k : Int) < 1) = false := decide_eq_false (by omega)
  have dk2 : decide ((nf : Int) ≤ (k : Int)) = false := decide_eq_false (by omega)
  have dk3 : decide (nf ≤ k) = false := decide_eq_false (by omega)
  go_upto_if 48 with fail
  go_cut [1] (fun s1 wx => (∃ a : Int, 0 ≤ a ∧ a ≤ 9223372036854775807 ∧ s1 = .int .i64 a) ∧ wx = w3)
  case first =>
    have hm1 := HM1.out
    have hm2 := HM2.out
    by_cases hneg : m < 0
    · have d0 : decide (m < 0) = true := decide_eq_true hneg
      go_wp2_with fail
      go_meet
      case rel => exact ⟨⟨-(m + 1), by omega, by omega, by first | rfl | (unfold wrap64; congr 1; omega)⟩, rfl⟩
    · have d0 : decide (m < 0) = false := decide_eq_false hneg
      go_wp2_with fail
      go_meet
      case rel => exact ⟨⟨m, by omega, by omega, rfl⟩, rfl⟩
  case rest =>
    obtain ⟨⟨a, ha0, ha1, rfl⟩, rfl⟩ := hcut
    obtain ⟨P, hP, hPl⟩ : ∃ P : Nat, a % (8 * ((nf : Int) - (k : Int))) = (P : Int) ∧ P < 8 * (nf - k) := ⟨(a % (8 * ((nf : Int) - (k : Int)))).toNat, by have := Int.emod_nonneg a (show 8 * ((nf : Int) - (k : Int)) ≠ 0 by omega); omega, by have := Int.emod_lt_of_pos a (show 0 < 8 * ((nf : Int) - (k : Int)) by omega); omega⟩
    have hP2 : a % (8 * ((nf - k : Nat) : Int)) = (P : Int) := by rw [show (8 * ((nf - k : Nat) : Int)) = 8 * ((nf : Int) - (k : Int)) by omega]; exact hP
    obtain ⟨J, hJ⟩ : ∃ J, J = 8 * (nf - k) - P := ⟨_, rfl⟩
    have HJ := Aside0.mk hJ
    have RLB : Aside0 (Rd w A0 n c0 lb) := ⟨by rw [hlbq]; exact hr0q.out.take n hnn⟩
    obtain ⟨g, rfl, hg⟩ := own_block HRF4.out (by omega)
    clear hJ
    go_wp2_with fail
    rw [hP]
    go_loopw [12, 13] (fun t i wr => ∃ (j : Nat) (l : List Int) (tb : Bool), j ≤ 32 ∧ i = .int .i64 (j : Int) ∧ t = .bool tb ∧ Aside0 (tb = decide (T % 2 ^ (min j J) ≠ 0)) ∧ Aside0 (Bytes l) ∧ Aside0 (Bel w wr) ∧ Aside0 (Kd.R (Kd.int .u8) 5 wr w.heap.size (fun _ => True) (.slice (some ⟨g, 0, none⟩) nf cf) l) ∧ Aside0 (∀ q, q < 8 * nf → bitAt l q = bitAt (frameL lb) q ^^^ dm (8 * k + P) T j q)) (fun _ i _ => 32 - (intOf i).toNat)
    case atStart => exact ⟨0, rf, false, by omega, rfl, rfl, ⟨by simp [Nat.mod_one]⟩, ⟨by rw [HF.out]; exact HFB.out⟩, ⟨S4.out.bel⟩, HRF4, ⟨fun q hq => by rw [HF.out]; unfold dm; rw [if_neg (by omega), Nat.xor_zero]⟩⟩
    case round =>
      clear S4 RF4 HRF4
      obtain ⟨j, l, tb, hj, rfl, rfl, HTB, HLL, HBL, HRL, HBT⟩ := hrel
      by_cases hlt : j < 32
      · skip
        by_cases hp : P + j < 8 * (nf - k)
        · by_cases hbit : T / 2 ^ j % 2 = 1
          · have hd72 : (((T : Int) / 2 ^ j).tmod 2 == 1) = true := by rw [beq_iff_eq, show ((T : Int) / 2 ^ j) = ((T / 2 ^ j : Nat) : Int) by simp, show ((T / 2 ^ j : Nat) : Int).tmod 2 = ((T / 2 ^ j % 2 : Nat) : Int) from rfl, hbit]; rfl
            have HLN := Aside0.mk (Kd.R_reads' HRL.out).1
            obtain ⟨hcell, hfz⟩ := Kd.R_celln (0 : Int) HRL.out ((k + (P + j) / 8 : Nat) : Int) (by omega) (by omega)
            rw [Int.toNat_natCast] at hcell hfz
            go_wp2_with fail
            refine ⟨?_, by simp [intOf] <;> omega⟩
            refine ⟨j + 1, _, true, by omega, by go_num, rfl, ?d1, ?d2, ?d3, ⟨Kd.R_putn HRL.out ((k + (P + j) / 8 : Nat) : Int) _⟩, ?d4⟩
            case d1 =>
              have := HJ.out
              rw [show min (j + 1) J = j + 1 by omega]
              exact ⟨(decide_eq_true ((low_step T j).2 (.inr hbit))).symm⟩
            case d2 => rw [turn_eq]; exact ⟨flip_bytes HLL.out (8 * k + P + j) (by have := HLN.out; omega)⟩
            case d3 => exact ⟨below_set HBL.out hg⟩
            case d4 => rw [turn_eq]; exact ⟨fun q hq => by rw [bitAt_flip _ HLL.out _ _ (by have := HLN.out; omega), HBT.out q hq, dm_step, hbit, Nat.xor_assoc]⟩
          · have hd72 : (((T : Int) / 2 ^ j).tmod 2 == 1) = false := by rw [beq_eq_false_iff_ne, show ((T : Int) / 2 ^ j) = ((T / 2 ^ j : Nat) : Int) by simp, show ((T / 2 ^ j : Nat) : Int).tmod 2 = ((T / 2 ^ j % 2 : Nat) : Int) from rfl]; omega
            go_wp2_with fail
            refine ⟨?_, by simp [intOf] <;> omega⟩
            refine ⟨j + 1, l, tb, by omega, by go_num, rfl, ?d5, HLL, HBL, HRL, ⟨fun q hq => by rw [HBT.out q hq, dm_step, show T / 2 ^ j % 2 = 0 by omega]; simp⟩⟩
            case d5 =>
              have := HJ.out
              refine ⟨?_⟩
              rw [HTB.out, show min (j + 1) J = j + 1 by omega, show min j J = j by omega]
              exact decide_eq_decide.2 (by rw [low_step]; simp [hbit])
        · have hpn : ¬ ((P : Int) + (j : Int) < 8 * ((nf : Int) - (k : Int))) := by omega
          go_wp2_with fail
          refine ⟨?_, by simp [intOf] <;> omega⟩
          refine ⟨j + 1, l, tb, by omega, by go_num, rfl, ?d6, HLL, HBL, HRL, ⟨fun q hq => by rw [HBT.out q hq, dm_step, if_neg (by omega), Nat.xor_zero]⟩⟩
          case d6 =>
            have := HJ.out
            refine ⟨?_⟩
            rw [HTB.out, show min (j + 1) J = J by omega, show min j J = J by omega]
      · skip
        obtain rfl : j = 32 := by omega
        have HRd : Aside0 (Rd wr (some ⟨g, 0, none⟩) nf cf l) := ⟨by obtain ⟨h1, h2, h3⟩ := Kd.R_reads' HRL.out; exact ⟨h1.symm, h2, by rw [h1]; exact h3⟩⟩
        have HLN := Aside0.mk (Kd.R_reads' HRL.out).1
        have HTr : Aside0 (GT wr) := ⟨GT.below HTw.out HBL.out⟩
        have hPJ : 8 * k + P + J = 8 * nf := by have := HJ.out; omega
        have HPJ := Aside0.mk hPJ
        clear hPJ
        cases tb
        · have hz : T % 2 ^ (min 32 J) = 0 := by have h := HTB.out; simpa using h
          have HE : Aside0 (l = frameL lb) := ⟨same_bits HLL.out HFB.out (by have := HLN.out; omega) (fun q hq => by
            have h1 := HLN.out
            have h2 := HPJ.out
            rw [HBT.out q (by omega)]
            unfold dm
            by_cases h3 : 8 * k + P ≤ q ∧ q < 8 * k + P + 32
            · rw [if_pos h3, low_zero T (min 32 J) _ hz (by omega), Nat.xor_zero]
            · rw [if_neg h3, Nat.xor_zero])⟩
          clear hz
          go_wp2_with fail
          refine (cUnframe (x := lb) (k := (nf : Int)) (e := 0) HRd.out (by omega) HLL.out HTr.out (by have h := unframeL_frame lb [] (by omega); rw [List.append_nil, ← HE.out] at h; rw [h, ← HLN.out])).mono ?_
          rintro e we ⟨Ax, nx, cx, rx, rfl, hrx, hdx, hb⟩
          have Rx := Aside0.mk hdx
          have HRX := Aside0.mk hrx
          have HB2 := Aside0.mk (HBL.out.step hb)
          have RB := Aside0.mk (Rd.step (show Rd wr A0 n c0 lb from ⟨RLB.out.1, RLB.out.2.1, Kd.C_below RLB.out.2.2 HBL.out⟩) hb)
          clear hdx hrx hb
          go_wp2_with fail
          refine (cSame Rx.out RB.out HRX.out).mono ?_
          rintro e wf ⟨rfl, hb⟩
          have HB3 := Aside0.mk (HB2.out.step hb)
          clear hb
          go_wp2_with fail
          go_ret
          exact ⟨rfl, HB3.out⟩
        · have hz : T % 2 ^ (min 32 J) ≠ 0 := by have h := HTB.out; simpa using h.symm
          have HU : Aside0 (unframeL l = ([], 0, 23)) := ⟨damaged lb l HLB.out (by omega) HLL.out (by have := HLN.out; omega) (dm (8 * k + P) T 32) (fun q hq => HBT.out q (by have := HLN.out; omega)) (8 * k + P) J T HTT.out (by rw [← HK.out]; omega) (by have h1 := HLN.out; have h2 := HPJ.out; omega) (fun q hq => by unfold dm; rw [if_neg (by omega)]) (fun i hi => by
            unfold dm
            by_cases h3 : i < 32
            · rw [if_pos ⟨by omega, by omega⟩, show 8 * k + P + i - (8 * k + P) = i by omega]
            · rw [if_neg (by omega), Nat.div_eq_of_lt (Nat.lt_of_lt_of_le HTT.out (Nat.pow_le_pow_right (n := 2) (i := 32) (by omega) (by omega)))]) (by
            intro h0
            apply hz
            by_cases h4 : J ≤ 32
            · rw [Nat.min_eq_right h4]; exact h0
            · have ht : T < 2 ^ J := Nat.lt_of_lt_of_le HTT.out (Nat.pow_le_pow_right (n := 2) (i := 32) (by omega) (by omega))
              rw [Nat.mod_eq_of_lt ht] at h0
              rw [h0, Nat.zero_mod])⟩
          clear hz
          go_wp2_with fail
          refine (cUnframe HRd.out (by omega) HLL.out HTr.out HU.out).mono ?_
          rintro e we ⟨Ax, nx, cx, rx, rfl, hrx, hdx, hb⟩
          obtain rfl : nx = 0 := by have h := hdx.1; rw [hrx] at h; simpa using h.symm
          have HB2 := Aside0.mk (HBL.out.step hb)
          clear hdx hrx hb
          go_wp2_with fail
          go_ret
          exact ⟨rfl, HB2.out⟩
theorem walk (A0 : Option Addr) (c0 : Nat) (l0 : List Int) {w' : World} (hr0 : Kd.C (Kd.int .u8) w' A0 l0.length l0) (hc0 : l0.length ≤ c0) (hw : ∀ x ∈ l0, (Lit.int .u8 x).wf = true) (y : l0.length * 1 ≤ 140737488351232) (m : Int) (hm : (Lit.int .i64 m).wf = true) (t : Int) (ht : (Lit.int .u32 t).wf = true) (w : World) (hT : GT w) (e : w' = w := by rfl) :
    Calls Tryd.prog 5 #[.slice A0 l0.length c0, .int .i64 m, .int .u32 t] w fun e w' => e = .returned (.bool true) ∧ Below w.heap.size w w' := by
  subst e
  have hx : -9223372036854775808 ≤ m ∧ m ≤ 9223372036854775807 := by simpa [Lit.wf, IntKind.min, IntKind.max, IntKind.signed, IntKind.bits] using hm
  have hu : 0 ≤ t ∧ t ≤ 4294967295 := by simpa [Lit.wf, IntKind.min, IntKind.max, IntKind.signed, IntKind.bits] using ht
  obtain ⟨T, rfl⟩ := Int.eq_ofNat_of_zero_le hu.1
  exact walk_ A0 c0 l0 m T _ ⟨rfl, hc0, hr0⟩ (bytes_wf hw) (by omega) hx.1 hx.2 (by omega) hT
end Go.Proofs.YtipefhadafildaaDoor.CodecDamage
