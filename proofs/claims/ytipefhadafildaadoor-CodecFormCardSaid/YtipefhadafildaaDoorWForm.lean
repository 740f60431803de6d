/- The walk of CodecForm (this claim's own lemmas). -/
import Derived.Test.YtipefhadafildaaDoorWrapB
import Derived.Test.YtipefhadafildaaDoorLawG
import Derived.Deep.DeepCutAuto
import Derived.Deep.CutBlock
import Derived.Deep.RegionHeld3
namespace Go.Proofs.YtipefhadafildaaDoor.CodecForm
open Go.RowKit Go.Proofs.YtipefhadafildaaDoorW.PrintWords Go.Proofs.YtipefhadafildaaDoor.Own Go.Proofs.YtipefhadafildaaDoor.WrapB Go.Proofs.YtipefhadafildaaDoor.G
set_option linter.unusedVariables false
/-- What holds along the walk: the table, the older memory, the list that is read. -/
structure Now (w W : World) (A : Option Addr) (n c : Nat) (l : List Int) : Prop where
  tab : Tab W
  bel : Bel w W
  rd : Rd W A n c l
theorem Now.step {w W W' : World} {A : Option Addr} {n c : Nat} {l : List Int} (h : Now w W A n c l) (hb : Below W.heap.size W W') : Now w W' A n c l := ⟨h.tab.step hb, h.bel.step hb, h.rd.step hb⟩
theorem under_drew {w w' : World} (h : Below w.drew.heap.size w.drew w') : Below w.heap.size w w' := ⟨h.os, h.tape, h.output, h.size, h.block⟩
set_option maxHeartbeats 16000000 in
set_option maxRecDepth 100000 in
theorem walk_ (A0 : Option Addr) (c0 : Nat) (l0 : List Int) (m : Int) (w : World) (hr0 : Rd w A0 l0.length c0 l0) (hl : Bytes l0) (hlen : l0.length ≤ 140737488351232) (hm1 : -9223372036854775808 ≤ m) (hm2 : m ≤ 9223372036854775807) (hT : GT w) :
    Calls Tryd.prog 7 #[.slice A0 l0.length c0, .int .i64 m] w fun e w' => e = .returned (.bool true) ∧ Below w.heap.size w w' := by
  have hc0 := hr0.2.1
  have S : Aside0 (Now w w A0 l0.length c0 l0) := ⟨⟨hT, Below.refl _ _, hr0⟩⟩
  have HL := Aside0.mk hl
  have HM1 := Aside0.mk hm1
  have HM2 := Aside0.mk hm2
  obtain ⟨i0, hi0, _, hsz0, _⟩ := info_parts infoB
  have HI := Aside0.mk hi0
  clear hr0 hl hT hi0 hsz0
  go_enter Tryd.func7, Tryd.ntmps7
  go_wp2_with fail
  refine (cKnown S.out.tab).mono ?_
  rintro e w0 ⟨rfl, hb⟩
  have S1 := Aside0.mk (S.out.step hb)
  clear hb S 
  obtain ⟨n, k, e0, hu⟩ : ∃ n k e0, uintN l0 = (n, k, e0) := ⟨_, _, _, rfl⟩
  go_wp2_with fail
  refine (cUint S1.out.rd (by omega) HL.out hu).mono ?_
  rintro e wa ⟨rfl, hb⟩
  have S2 := Aside0.mk (S1.out.step hb)
  clear hb S1 
  go_upto_if 31 with fail
  go_cut [] (fun wx => Aside0 (Now w wx A0 l0.length c0 l0))
  case first =>
    by_cases he : e0 = 0
    · skip
      subst he
      obtain ⟨u1, u2, u3, u4⟩ := uintN_back HL.out hu
      have HU := Aside0.mk hu
      have HU1 := Aside0.mk u1
      clear hu u1
      have dk1 : decide ((k : Int) < 1) = false := decide_eq_false (by omega)
      have dk2 : decide ((l0.length : Int) < (k : Int)) = false := decide_eq_false (by omega)
      have dk4 : decide (l0.length < k) = false := decide_eq_false (by omega)
      have hcutk := cut_to (P := Tryd.prog) 22 5 .i64 Tryd.underlying22 HI.out A0 l0.length c0 (k : Int) (by omega) (by omega) hc0
      rw [Int.toNat_natCast] at hcutk
      go_upto_region 5 with fail
      go_cut [48] (fun s48 wx => s48 = .bool false ∧ Aside0 (Now w wx A0 l0.length c0 l0))
      case first =>
        go_region_held3 (fun _ => True) (trivial) (first
          | (go_at_call 21; (have hcall := cPutNat (w := wa.drew) (Rd.nil _) (by omega) u4); refine hcall.mono ?_; clear hcall; rintro e wb ⟨Aa, na, ca, ra, rfl, ha, hda, -, hb⟩; (have Ra := Aside0.mk hda); (have HA := Aside0.mk ha); (have S8 := Aside0.mk (S2.out.step (under_drew hb))); clear ha hda hb)
          | (go_at_call 12; (have hcall := cSame Ra.out (S8.out.rd.take k u3) (by rw [HA.out, List.nil_append]; exact HU1.out)); refine hcall.mono ?_; clear hcall; rintro e wb2 ⟨rfl, hb⟩; (have S9 := Aside0.mk (S8.out.step hb)); clear hb))
        all_goals (try go_wp2)
        all_goals (go_meet; case rel => exact ⟨rfl, S9⟩)
      case rest =>
        clear dk1 dk2 dk4 hcutk HU1 S2
        obtain ⟨rfl, S⟩ := hcut
        go_wp2_with fail
        go_loopw [8] (fun i wr => ∃ t : Nat, t ≤ k ∧ i = .int .i64 (t : Int) ∧ Aside0 (Now w wr A0 l0.length c0 l0)) (fun i _ => k - (intOf i).toNat)
        case atStart => exact ⟨0, by omega, rfl, S⟩
        case round =>
          clear S
          obtain ⟨t, ht, rfl, S⟩ := hrel
          by_cases hlt : t < k
          · skip
            have hcutt := cut_to (P := Tryd.prog) 22 5 .i64 Tryd.underlying22 HI.out A0 l0.length c0 (t : Int) (by omega) (by omega) hc0
            rw [Int.toNat_natCast] at hcutt
            obtain ⟨a2, b2, e2, hu2⟩ : ∃ a2 b2 e2, uintN (l0.take t) = (a2, b2, e2) := ⟨_, _, _, rfl⟩
            have he2 : ((e2 : Int) == 0) = false := by have h := uintN_cut HU.out hlt; rw [hu2] at h; simp only [ne_eq] at h; rw [beq_eq_false_iff_ne]; omega
            go_wp2_with fail
            refine (cUint (S.out.rd.take t (by omega)) (by omega) (bytes_take HL.out t) hu2).mono ?_
            rintro e wq ⟨rfl, hb⟩
            clear hu2
            have S3 := Aside0.mk (S.out.step hb)
            clear hb S 
            go_wp2_with fail
            refine ⟨?_, by simp [intOf] <;> omega⟩
            repeat (apply Exists.intro (α := Value))
            exact ⟨⟨t + 1, by omega, by go_num, S3⟩, rfl⟩
          · skip
            go_wp2_with fail
            go_meet
            case rel => exact S
    · skip
      have de : ((e0 : Int) == 0) = false := by rw [beq_eq_false_iff_ne]; omega
      go_wp2_with fail
      go_meet
      case rel => exact S2
  case rest =>
    clear S2 hu
    have S := hcut
    clear hcut
    obtain ⟨s, k2, e3, hx⟩ : ∃ s k2 e3, textL l0 m = (s, k2, e3) := ⟨_, _, _, rfl⟩
    go_wp2_with fail
    refine (cText S.out.rd (by omega) HL.out HM1.out HM2.out hx).mono ?_
    rintro e wd ⟨rfl, hb⟩
    have S4 := Aside0.mk (S.out.step hb)
    clear hb S 
    go_upto_if 72 with fail
    go_cut [] (fun wx => Aside0 (Now w wx A0 l0.length c0 l0))
    case first =>
      by_cases he3 : e3 = 0
      · skip
        obtain ⟨q, rfl, q1, q2, q3, q4, q5⟩ := textL_back HL.out hx he3
        subst he3
        clear hx
        have HQ4 := Aside0.mk q4
        have HQ5 := Aside0.mk q5
        have hss : s.size ≤ q := by have h := congrArg List.length q4; rw [List.length_append, bytesOf_length, List.length_take] at h; omega
        clear q4 q5
        have dk1 : decide ((q : Int) < 1) = false := decide_eq_false (by omega)
        have dk2 : decide ((l0.length : Int) < (q : Int)) = false := decide_eq_false (by omega)
        have dk4 : decide (l0.length < q) = false := decide_eq_false (by omega)
        have dk3 : decide (m < (s.size : Int)) = false := decide_eq_false (by omega)
        have hcutk := cut_to (P := Tryd.prog) 22 5 .i64 Tryd.underlying22 HI.out A0 l0.length c0 (q : Int) (by omega) (by omega) hc0
        rw [Int.toNat_natCast] at hcutk
        go_upto_region 15 with fail
        go_cut [95] (fun s95 wx => s95 = .bool false ∧ Aside0 (Now w wx A0 l0.length c0 l0))
        case first =>
          go_region_held3 (fun _ => True) (trivial) (first
            | (go_at_call 22; (have hcall := cPutText (w := wd.drew) (s := s) (Rd.nil _) (by omega)); refine hcall.mono ?_; clear hcall; rintro e wb ⟨Aa, na, ca, ra, rfl, ha, hda, -, hb⟩; (have Ra := Aside0.mk hda); (have HA := Aside0.mk ha); (have S8 := Aside0.mk (S4.out.step (under_drew hb))); clear ha hda hb)
            | (go_at_call 12; (have hcall := cSame Ra.out (S8.out.rd.take q q2) (by rw [HA.out, List.nil_append]; exact HQ4.out)); refine hcall.mono ?_; clear hcall; rintro e wb2 ⟨rfl, hb⟩; (have S9 := Aside0.mk (S8.out.step hb)); clear hb))
          all_goals (try go_wp2)
          all_goals (go_meet; case rel => exact ⟨rfl, S9⟩)
        case rest =>
          clear dk1 dk2 dk3 dk4 hcutk HQ4 q3 S4
          obtain ⟨rfl, S⟩ := hcut
          go_wp2_with fail
          go_loopw [13] (fun i wr => ∃ t : Int, -1 ≤ t ∧ t ≤ (q : Int) - 1 ∧ i = .int .i64 t ∧ Aside0 (Now w wr A0 l0.length c0 l0)) (fun i _ => (intOf i + 1).toNat)
          case atStart => exact ⟨(q : Int) - 1, by omega, by omega, by first | rfl | go_num, S⟩
          case round =>
            clear S 
            obtain ⟨t, ht1, ht2, rfl, S⟩ := hrel
            by_cases h0 : 0 ≤ t
            · skip
              obtain ⟨T, rfl⟩ := Int.eq_ofNat_of_zero_le h0
              have d0 : decide ((0 : Int) ≤ (T : Int)) = true := decide_eq_true h0
              by_cases h9 : (q : Int) - 9 < (T : Int)
              · skip
                have d9 : decide ((q : Int) - 9 < (T : Int)) = true := decide_eq_true h9
                have hcutt := cut_to (P := Tryd.prog) 22 5 .i64 Tryd.underlying22 HI.out A0 l0.length c0 (T : Int) (by omega) (by omega) hc0
                rw [Int.toNat_natCast] at hcutt
                obtain ⟨s2, k4, e4, hx2⟩ : ∃ s2 k4 e4, textL (l0.take T) m = (s2, k4, e4) := ⟨_, _, _, rfl⟩
                have he4 : (e4 == 0) = false := by have h := HQ5.out T (by omega); rw [hx2] at h; rw [beq_eq_false_iff_ne]; exact h
                go_wp2_with fail
                refine (cText (S.out.rd.take T (by omega)) (by omega) (bytes_take HL.out T) HM1.out HM2.out hx2).mono ?_
                rintro e wg ⟨rfl, hb⟩
                clear hx2
                have S5 := Aside0.mk (S.out.step hb)
                clear hb S 
                go_wp2_with fail
                exact ⟨⟨(T : Int) - 1, by omega, by omega, by go_num, S5⟩, by simp [intOf] <;> omega⟩
              · skip
                have d9 : decide ((q : Int) - 9 < (T : Int)) = false := decide_eq_false h9
                go_wp2_with fail
                go_meet
                case rel => exact S
            · skip
              have d0 : decide ((0 : Int) ≤ t) = false := decide_eq_false h0
              go_wp2_with fail
              go_meet
              case rel => exact S
      · skip
        have de3 : (e3 == 0) = false := by rw [beq_eq_false_iff_ne]; exact he3
        go_wp2_with fail
        go_meet
        case rel => exact S4
    case rest =>
      clear S4 hx
      have S := hcut
      clear hcut
      obtain ⟨x, k5, e5, hy⟩ : ∃ x k5 e5, unframeL l0 = (x, k5, e5) := ⟨_, _, _, rfl⟩
      go_wp2_with fail
      refine (cUnframe S.out.rd (by omega) HL.out S.out.tab hy).mono ?_
      rintro e wh ⟨Ax, nx, cx, rx, rfl, hrx, hdx, hb⟩
      have R5x := Aside0.mk hdx
      clear hdx
      have S6 := Aside0.mk (S.out.step hb)
      clear hb S
      rcases unframeL_back HL.out hy with ⟨y1, rfl, rfl⟩ | ⟨rfl, q, rfl, y1, y2, y3, y4, y5, y6⟩
      · skip
        have de5 : (e5 != 0) = true := by rw [bne_iff_ne]; exact y1
        obtain rfl : nx = 0 := by have h := R5x.out.1; rw [hrx] at h; simpa using h.symm
        go_wp2_with fail
        go_ret
        exact ⟨rfl, S6.out.bel⟩
      · skip
        subst hrx
        have HY4 := Aside0.mk y4
        have HY5 := Aside0.mk y5
        have HY6 := Aside0.mk y6
        clear y4 y5 y6 hy
        go_upto_block 4 with fail
        go_cut [] (fun wx => Aside0 (Now w wx A0 l0.length c0 l0) ∧ Aside0 (Rd wx Ax nx cx rx))
        case first =>
          go_wp2_with fail
          go_loopw [18] (fun i wr => ∃ t : Int, -1 ≤ t ∧ t ≤ (q : Int) - 1 ∧ i = .int .i64 t ∧ Aside0 (Now w wr A0 l0.length c0 l0) ∧ Aside0 (Rd wr Ax nx cx rx)) (fun i _ => (intOf i + 1).toNat)
          case atStart => exact ⟨(q : Int) - 1, by omega, by omega, by first | rfl | go_num, S6, R5x⟩
          case round =>
            clear S6 R5x
            obtain ⟨t, ht1, ht2, rfl, S, Rx⟩ := hrel
            by_cases h0 : 0 ≤ t
            · skip
              obtain ⟨T, rfl⟩ := Int.eq_ofNat_of_zero_le h0
              have d0 : decide ((0 : Int) ≤ (T : Int)) = true := decide_eq_true h0
              by_cases h9 : (q : Int) - 9 < (T : Int)
              · skip
                have d9 : decide ((q : Int) - 9 < (T : Int)) = true := decide_eq_true h9
                have hcutt := cut_to (P := Tryd.prog) 22 5 .i64 Tryd.underlying22 HI.out A0 l0.length c0 (T : Int) (by omega) (by omega) hc0
                rw [Int.toNat_natCast] at hcutt
                obtain ⟨x2, k6, e6, hy2⟩ : ∃ x2 k6 e6, unframeL (l0.take T) = (x2, k6, e6) := ⟨_, _, _, rfl⟩
                have he6 : (e6 == 0) = false := by have h := HY6.out T (by omega); rw [hy2] at h; rw [beq_eq_false_iff_ne]; exact h
                go_wp2_with fail
                refine (cUnframe (S.out.rd.take T (by omega)) (by omega) (bytes_take HL.out T) S.out.tab hy2).mono ?_
                rintro e wi ⟨Az, nz, cz, rz, rfl, -, -, hb⟩
                clear hy2
                have S7 := Aside0.mk (S.out.step hb)
                have Rx_7 := Aside0.mk (Rx.out.step hb)
                clear hb S Rx
                go_wp2_with fail
                exact ⟨⟨(T : Int) - 1, by omega, by omega, by go_num, S7, Rx_7⟩, by simp [intOf] <;> omega⟩
              · skip
                have d9 : decide ((q : Int) - 9 < (T : Int)) = false := decide_eq_false h9
                go_wp2_with fail
                go_meet
                case rel => exact ⟨S, Rx⟩
            · skip
              have d0 : decide ((0 : Int) ≤ t) = false := decide_eq_false h0
              go_wp2_with fail
              go_meet
              case rel => exact ⟨S, Rx⟩
        case rest =>
          clear S6 R5x
          obtain ⟨S, Rx⟩ := hcut
          have hlx : rx.length = nx := Rx.out.1
          have dk1 : decide ((5 : Int) ≤ (q : Int)) = true := decide_eq_true (by omega)
          have dk2 : decide ((q : Int) ≤ (l0.length : Int)) = true := decide_eq_true (by omega)
          have dk4 : decide (q ≤ l0.length) = true := decide_eq_true (by omega)
          have dk5 : decide (5 ≤ q) = true := decide_eq_true (by omega)
          have hcutk := cut_to (P := Tryd.prog) 22 5 .i64 Tryd.underlying22 HI.out A0 l0.length c0 (q : Int) (by omega) (by omega) hc0
          rw [Int.toNat_natCast] at hcutk
          go_upto_region 32 with fail
          go_region_held3 (fun _ => True) (trivial) (first
            | (go_at_call 14; (have hcall := cFrame (w := wc.drew) (A := Ax) (n := nx) (c := cx) (l := rx) Rx.out (by omega) HY4.out S.out.tab); refine hcall.mono ?_; clear hcall; rintro e wb ⟨Aa, na, ca, ra, rfl, ha, hda, -, hb⟩; (have Ra := Aside0.mk hda); (have HA := Aside0.mk ha); (have S8 := Aside0.mk (S.out.step (under_drew hb))); clear ha hda hb)
            | (go_at_call 12; (have hcall := cSame Ra.out (S8.out.rd.take q y2) (by rw [HA.out]; exact HY5.out)); refine hcall.mono ?_; clear hcall; rintro e wb2 ⟨rfl, hb⟩; (have S9 := Aside0.mk (S8.out.step hb)); clear hb))
          all_goals go_wp2
          all_goals go_ret
          all_goals exact ⟨rfl, S9.out.bel⟩
theorem walk (A0 : Option Addr) (c0 : Nat) (l0 : List Int) {w' : World} (hr0 : Kd.C (Kd.int .u8) w' A0 l0.length l0) (hc0 : l0.length ≤ c0) (hw : ∀ x ∈ l0, (Lit.int .u8 x).wf = true) (y : l0.length * 1 ≤ 140737488351232) (m : Int) (hm : (Lit.int .i64 m).wf = true) (w : World) (hT : GT w) (e : w' = w := by rfl) :
    Calls Tryd.prog 7 #[.slice A0 l0.length c0, .int .i64 m] w fun e w' => e = .returned (.bool true) ∧ Below w.heap.size w w' := by
  subst e
  have hx : -9223372036854775808 ≤ m ∧ m ≤ 9223372036854775807 := by simpa [Lit.wf, IntKind.min, IntKind.max, IntKind.signed, IntKind.bits] using hm
  exact walk_ A0 c0 l0 m _ ⟨rfl, hc0, hr0⟩ (bytes_wf hw) (by omega) hx.1 hx.2 hT
end Go.Proofs.YtipefhadafildaaDoor.CodecForm
