/- The walk of BloomOrder (this claim's own lemmas). -/
import Derived.Test.YtlcohooognjmaaaDoorBlW
namespace Go.Proofs.YtlcohooognjmaaaDoor.BloomOrder
open Go.RowKit Go.Proofs.YtlcohooognjmaaaDoorW.PrintWords Go.Proofs.YtlcohooognjmaaaDoor.Own Go.Proofs.YtlcohooognjmaaaDoor.G Go.Proofs.YtlcohooognjmaaaDoor.Bl Go.Proofs.YtlcohooognjmaaaDoor.BlW
set_option linter.unusedVariables false
theorem setB_snoc (c : List Int) (x : Int) (P : Nat) (h : P / 8 < c.length) : setB (c ++ [x]) P = setB c P ++ [x] := by
  unfold setB
  rw [rd_left _ _ _ h, List.set_append_left _ _ h]
theorem rev_take (l : List ByteArray) (j : Nat) (h : j < l.length) : l.reverse.take (j + 1) = l.reverse.take j ++ [l[l.length - 1 - j]] := by
  rw [List.take_succ_eq_append_getElem (by simpa using h)]
  congr 2
  simp
set_option maxHeartbeats 4000000 in
set_option maxRecDepth 100000 in
theorem walk_ (A0 : Option Addr) (c0 : Nat) (l0 : List ByteArray) (b : Int) (A2 : Option Addr) (c2 : Nat) (l2 : List Int) (key : ByteArray) (w : World) (hr0 : Rd Kd.string w A0 l0.length c0 l0) (hn : l0.length ≤ 9223372036854775807) (hs : ∀ s ∈ l0, s.size ≤ 9223372036854775807) (hb1 : -9223372036854775808 ≤ b) (hb2 : b ≤ 9223372036854775807) (hr2 : Rd (Kd.int .i64) w A2 l2.length c2 l2) (hn2 : l2.length ≤ 140737488355328) (hw2 : ∀ x ∈ l2, -9223372036854775808 ≤ x ∧ x ≤ 9223372036854775807) (hkey : key.size ≤ 9223372036854775807) (hT : GT w) :
    Calls Tryd.prog 6 #[.slice A0 l0.length c0, .int .i64 b, .slice A2 l2.length c2, .string key] w fun e w' => e = .returned (.bool true) ∧ Below w.heap.size w w' := by
  have HR := Aside0.mk hr0
  have HS := Aside0.mk hs
  have HT : Aside0 (Tab w) := ⟨hT⟩
  have HB1 := Aside0.mk hb1
  have HB2 := Aside0.mk hb2
  have HR2 := Aside0.mk hr2
  have HW2 := Aside0.mk hw2
  have HKEY := Aside0.mk hkey
  clear hr0 hs hT hb1 hb2 hr2 hw2 hkey
  go_enter Tryd.func6, Tryd.ntmps6
  go_wp2_with fail
  refine (cKnown HT.out).mono ?_
  rintro e w1 ⟨rfl, hb⟩
  have B1 : Aside0 (Bel w w1) := ⟨hb⟩
  have R1 := Aside0.mk (HR.out.step hb)
  clear hb
  go_wp2_with fail
  refine (cSome R1.out (by omega)).mono ?_
  rintro e w2 ⟨m, rfl, hm4, hmn, hrd, rfl⟩
  obtain ⟨ks, hks⟩ : ∃ ks, ks = l0.take m := ⟨_, rfl⟩
  rw [← hks] at hrd
  have R0 : Aside0 (Rd Kd.string w A0 m c0 ks) := ⟨by rw [hks]; exact HR.out.take m hmn⟩
  have HKS : Aside0 (∀ s ∈ ks, s.size ≤ 9223372036854775807) := ⟨fun s hs => HS.out s (List.mem_of_mem_take (by rw [← hks]; exact hs))⟩
  have HKL := Aside0.mk hrd.1
  clear hrd hks R1 HS HR
  go_wp2_with fail
  go_loopw [9, 10] (fun v iv wr => ∃ j : Nat, j ≤ m ∧ iv = .int .i64 ((m : Int) - 1 - (j : Int)) ∧ Aside0 (Kd.R Kd.string 9 wr w.heap.size (fun _ => True) v (ks.reverse.take j)) ∧ Aside0 (Bel w wr)) (fun _ iv _ => (intOf iv + 1).toNat)
  case atStart => exact ⟨0, by omega, by first | rfl | go_num, ⟨by rw [List.take_zero]; exact Kd.R_nil _ _ _ _ _⟩, B1⟩
  case round =>
    clear B1
    obtain ⟨j, hj, rfl, HO, B⟩ := hrel
    by_cases hlt : j < m
    · have d1 : decide ((0 : Int) ≤ (m : Int) - 1 - (j : Int)) = true := decide_eq_true (by omega)
      obtain ⟨ad, e1, hcell⟩ := Kd.at_string (R0.out.step B.out).2.2 ((m : Int) - 1 - (j : Int)) (by omega) (by omega)
      cases e1
      have hjk : m - 1 - j < ks.length := by rw [HKL.out]; omega
      obtain ⟨s, hs'⟩ : ∃ s, s = ks[m - 1 - j] := ⟨_, rfl⟩
      have hrd : rdOf ByteArray.empty ks ((m : Int) - 1 - (j : Int)) = s := by rw [hs', show ((m : Int) - 1 - (j : Int)) = ((m - 1 - j : Nat) : Int) by omega]; simp [rdOf, List.getD_eq_getElem?_getD, hjk]
      rw [hrd, show ((m : Int) - 1 - (j : Int)).toNat = m - 1 - j by omega] at hcell
      have d1' : decide ((j : Int) ≤ (m : Int) - 1) = true := decide_eq_true (by omega)
      have HT1 : Aside0 (ks.reverse.take (j + 1) = ks.reverse.take j ++ [s]) := ⟨by
        rw [rev_take ks j (by rw [HKL.out]; exact hlt), hs']
        congr 2
        simp only [HKL.out]⟩
      have HLL : Aside0 ((ks.reverse.take j).length = j) := ⟨by rw [List.length_take, List.length_reverse, HKL.out]; omega⟩
      clear hrd hs' hjk
      go_wp2_with (first
        | ((with_reducible refine gate_builtin (b := .append) (xs := #[.tmp 27, .tmp 32]) rfl ?_); at_builtin; go_must (refine Kd.R_append Kd.string (w0 := w) w.heap.size rfl (.tmp 27) (.tmp 32) 22 9 (.string ByteArray.empty) 16 rfl Tryd.underlying22 infoS rfl (by decide) (by omega) _ (ks.reverse.take j) s [.string s] (fun _ => True) (fun _ => False) rfl rfl rfl (fun _ hk => hk.elim) (fun _ _ => trivial) ?aO ?aB ?aS ?aL ?_); (case aO => exact HO.out); (case aB => exact B.out); (case aS => exact B.out.size); (case aL => have := HLL.out; omega); intro v2 w3 ho hb hg_ hn_; (have HO2 := Aside0.mk ho); (have B2 : Aside0 (Bel w w3) := ⟨hb⟩); clear ho hb hg_ hn_))
      exact ⟨⟨j + 1, by omega, by go_num, ⟨by rw [HT1.out]; exact HO2.out⟩, B2⟩, by simp [intOf]; omega⟩
    · obtain rfl : j = m := by omega
      have d1 : decide ((0 : Int) ≤ (j : Int) - 1 - (j : Int)) = false := decide_eq_false (by omega)
      have d2 : decide ((j : Int) ≤ (j : Int) - 1) = false := decide_eq_false (by omega)
      obtain ⟨Ab, nb, cb, eb, hbk, hbR⟩ := Rd.of_R HO.out
      have hfull : ks.reverse.take j = ks.reverse := List.take_of_length_le (by rw [List.length_reverse, HKL.out]; omega)
      rw [hfull] at hbk
      obtain rfl : nb = j := by rw [← hbk.1, List.length_reverse, HKL.out]
      subst eb
      have RB := Aside0.mk hbk
      have HTq := Aside0.mk (HT.out.step B.out)
      have RK := Aside0.mk (R0.out.step B.out)
      clear HO hbk hbR hfull
      go_wp2_with fail
      refine (cMake RK.out (by omega) HKS.out HB1.out HB2.out HTq.out).mono ?_
      rintro e w3 ⟨Aa, na, ca, fa, rfl, hfa, hda, -, hb⟩
      have T3 := Aside0.mk (HTq.out.step hb)
      have B3 := Aside0.mk (B.out.step hb)
      have RB3 := Aside0.mk (RB.out.step hb)
      have FA3 := Aside0.mk hda
      have HFA := Aside0.mk hfa
      clear hb hfa hda HTq B RB RK
      go_wp2_with fail
      refine (cMake RB3.out (by omega) (fun s hs => HKS.out s (List.mem_reverse.1 hs)) HB1.out HB2.out T3.out).mono ?_
      rintro e w4 ⟨Ac, nc, cc, fc, rfl, hfc, hdc, hRc, hb⟩
      have T4 := Aside0.mk (T3.out.step hb)
      have B4 := Aside0.mk (B3.out.step hb)
      have FA4 := Aside0.mk (FA3.out.step hb)
      have FC4 := Aside0.mk hdc
      have HRC := Aside0.mk (Kd.R_lower hRc B3.out.size)
      have HFC : Aside0 (fc = makeL ks b) := ⟨by rw [hfc]; exact rev ks b⟩
      clear hb hfc hdc hRc T3 B3 FA3 RB3
      go_wp2_with fail
      refine (cSame FA4.out FC4.out (by rw [HFA.out, HFC.out])).mono ?_
      rintro e w5 ⟨rfl, hb⟩
      have T5 := Aside0.mk (T4.out.step hb)
      have B5 := Aside0.mk (B4.out.step hb)
      have FA5 := Aside0.mk (FA4.out.step hb)
      have HRC5 := Aside0.mk (Kd.R_below HRC.out hb)
      have hLA := FA5.out.1
      have hLC := FC4.out.1
      rw [HFA.out] at hLA
      rw [HFC.out] at hLC
      clear hb T4 B4 FA4 FC4 HRC
      by_cases hz : b < 1 ∨ ks = []
      · have hmz : makeL ks b = [] := by unfold makeL; rw [if_pos hz]
        rw [hmz] at hLA
        obtain rfl : na = 0 := hLA.symm
        clear hz hmz hLC
        go_wp2_with fail
        go_ret
        exact ⟨rfl, B5.out⟩
      · obtain ⟨body, x0, k0, hform, hx, hk0, hbl, hbb⟩ : ∃ (body : List Int) (x : Int) (k : Nat), makeL ks b = body ++ [x] ∧ x = (k : Int) ∧ (1 ≤ k ∧ k ≤ 11) ∧ (8 ≤ body.length ∧ body.length ≤ 131072) ∧ Bytes body := by
          have hg := places_ge ks.length (min b.toNat 16)
          exact ⟨bodyN ks (min b.toNat 16), _, probesN (min b.toNat 16), by unfold makeL; rw [if_neg hz]; rfl, rfl, probes_ge _ (by omega), by rw [body_len]; omega, body_bytes _ _⟩
        rw [hform] at hLA hLC
        obtain ⟨N, hN⟩ : ∃ N, N = body.length := ⟨_, rfl⟩
        have hna : na = N + 1 := by rw [← hLA, hN]; simp
        have hnc : nc = na := by rw [← hLC, ← hLA]
        subst hnc
        have hni : (nc : Int) - 1 = (N : Int) := by omega
        have hbl1 : 8 ≤ N := by omega
        have hbl2 : N ≤ 131072 := by omega
        have hnc1 : 9 ≤ nc := by omega
        have hnc2 : nc ≤ 131073 := by omega
        have HFORM := Aside0.mk hform
        have HX := Aside0.mk hx
        have HK0 := Aside0.mk hk0
        have HBB := Aside0.mk hbb
        have HN := Aside0.mk hN
        have HBX : Aside0 (Bytes (body ++ [x0])) := ⟨fun y hy => by
          rcases List.mem_append.1 hy with h | h
          · exact hbb y h
          · rw [List.mem_singleton.1 h, hx]; constructor <;> omega⟩
        have HRC6 : Aside0 (Kd.R (Kd.int .u8) 5 w5 w.heap.size (fun _ => True) (.slice Ac nc cc) (body ++ [x0])) := ⟨by rw [← hform, ← HFC.out]; exact HRC5.out⟩
        have FA6 : Aside0 (Rd (Kd.int .u8) w5 Aa nc ca (body ++ [x0])) := ⟨by rw [← hform, ← HFA.out]; exact FA5.out⟩
        obtain ⟨gb, rfl, hgb⟩ := own_block HRC6.out (by omega)
        have d6 : decide ((nc : Int) < 2) = false := decide_eq_false (by omega)
        have d7 : decide (nc < 2) = false := decide_eq_false (by omega)
        clear hform hx hk0 hbb hN hbl hna hLA hLC hz HRC5 FA5 HFA HFC
        obtain ⟨mb, hmb⟩ : ∃ mb, mb = mayL (body ++ [x0]) key := ⟨_, rfl⟩
        have hcall := cMay FA6.out (by omega) HBX.out HKEY.out T5.out
        rw [← hmb] at hcall
        have HC := Aside0.mk hcall
        have HMB := Aside0.mk hmb
        clear hcall hmb FA6
        go_wp2_with fail
        refine HC.out.mono ?_
        rintro e w6 ⟨rfl, hb⟩
        have B6 := Aside0.mk (B5.out.step hb)
        have HRC7 := Aside0.mk (Kd.R_below HRC6.out hb)
        clear hb HC B5 T5 HRC6
        go_wp2_with fail
        go_loopw [14] (fun iv wr => ∃ (j : Nat) (c : List Int), j ≤ l2.length ∧ iv = .int .i64 (j : Int) ∧ Aside0 (c.length = N) ∧ Aside0 (Bytes c) ∧ Aside0 (∀ q, q < 8 * N → hasB body q = true → hasB c q = true) ∧ Aside0 (Kd.R (Kd.int .u8) 5 wr w.heap.size (fun _ => True) (.slice (some ⟨gb, 0, none⟩) nc cc) (c ++ [x0])) ∧ Aside0 (Bel w wr)) (fun iv _ => l2.length - (intOf iv).toNat)
        case atStart => exact ⟨0, body, by omega, rfl, ⟨HN.out.symm⟩, HBB, ⟨fun q _ h => h⟩, HRC7, B6⟩
        case round =>
          clear HRC7 B6
          obtain ⟨j, c, hj, rfl, HCL, HCB, HMORE, HO, B⟩ := hrel
          by_cases hlt : j < l2.length
          · obtain ⟨ad2, e1, hcell⟩ := Kd.at_int (HR2.out.step B.out).2.2 (j : Int) (by omega) (by omega)
            cases e1
            rw [Int.toNat_natCast] at hcell
            obtain ⟨x, hx⟩ : ∃ x, x = rd l2 (j : Int) := ⟨_, rfl⟩
            have hxb := HW2.out (rd l2 (j : Int)) (by simp only [rd, Int.toNat_natCast, List.getD_eq_getElem?_getD, List.getElem?_eq_getElem hlt, Option.getD_some]; exact List.getElem_mem hlt)
            rw [← hx] at hcell hxb
            obtain ⟨hxb1, hxb2⟩ := hxb
            clear hx
            by_cases hx0 : x < 0
            · skip
              have dn : decide (x < 0) = true := decide_eq_true hx0
              obtain ⟨P, hP⟩ : ∃ P : Nat, (-(x + 1)) % (8 * (N : Int)) = (P : Int) := ⟨((-(x + 1)) % (8 * (N : Int))).toNat, by have := Int.emod_nonneg (-(x + 1)) (show 8 * (N : Int) ≠ 0 by omega); omega⟩
              have hPl : P < 8 * N := by have := Int.emod_lt_of_pos (-(x + 1)) (show 0 < 8 * (N : Int) by omega); omega
              have hP2 : -((x + 1).tmod (8 * (N : Int))) = (P : Int) := by rw [← hP, ← Int.neg_tmod, Int.tmod_eq_emod_of_nonneg (by omega)]
              obtain ⟨hcell2, hfz⟩ := Kd.R_celln (0 : Int) HO.out ((P / 8 : Nat) : Int) (by omega) (by omega)
              rw [Int.toNat_natCast] at hcell2 hfz
              go_wp2_with fail
              exact ⟨⟨j + 1, setB c P, by omega, by go_num, ⟨by rw [setB_len]; exact HCL.out⟩, ⟨setB_bytes HCB.out P⟩, ⟨fun q hq hh => by rw [hasB_set HCB.out P q (by have := HCL.out; omega), HMORE.out q hq hh, Bool.true_or]⟩, ⟨by have hp := Kd.R_putn HO.out ((P / 8 : Nat) : Int) (bits .or .u8 (rdOf (0 : Int) (c ++ [x0]) ((P : Int) / 8)) ((2 : Int) ^ (P % 8) % 256)); rw [set_eq, setB_snoc c x0 P (by have := HCL.out; omega)] at hp; exact hp⟩, ⟨below_set B.out hgb⟩⟩, by simp [intOf]; omega⟩
            · skip
              have dn : decide (x < 0) = false := decide_eq_false hx0
              obtain ⟨P, hP⟩ : ∃ P : Nat, x % (8 * (N : Int)) = (P : Int) := ⟨(x % (8 * (N : Int))).toNat, by have := Int.emod_nonneg x (show 8 * (N : Int) ≠ 0 by omega); omega⟩
              have hPl : P < 8 * N := by have := Int.emod_lt_of_pos x (show 0 < 8 * (N : Int) by omega); omega
              obtain ⟨hcell2, hfz⟩ := Kd.R_celln (0 : Int) HO.out ((P / 8 : Nat) : Int) (by omega) (by omega)
              rw [Int.toNat_natCast] at hcell2 hfz
              go_wp2_with fail
              exact ⟨⟨j + 1, setB c P, by omega, by go_num, ⟨by rw [setB_len]; exact HCL.out⟩, ⟨setB_bytes HCB.out P⟩, ⟨fun q hq hh => by rw [hasB_set HCB.out P q (by have := HCL.out; omega), HMORE.out q hq hh, Bool.true_or]⟩, ⟨by have hp := Kd.R_putn HO.out ((P / 8 : Nat) : Int) (bits .or .u8 (rdOf (0 : Int) (c ++ [x0]) ((P : Int) / 8)) ((2 : Int) ^ (P % 8) % 256)); rw [set_eq, setB_snoc c x0 P (by have := HCL.out; omega)] at hp; exact hp⟩, ⟨below_set B.out hgb⟩⟩, by simp [intOf]; omega⟩
          · have HFB : Aside0 (Bytes (c ++ [x0])) := ⟨fun y hy => by
              rcases List.mem_append.1 hy with h | h
              · exact HCB.out y h
              · rw [List.mem_singleton.1 h, HX.out]; have := HK0.out; constructor <;> omega⟩
            cases mb
            · go_wp2_with fail
              go_ret
              exact ⟨rfl, B.out⟩
            · have hm2 : mayL (c ++ [x0]) key = true := may_more body c x0 key k0 HX.out HK0.out (by rw [← HN.out]; exact hbl1) (by rw [HCL.out, HN.out]) (fun q hq => HMORE.out q (by rw [HN.out]; exact hq)) HMB.out.symm
              have hcall := cMay (Rd.of_own HO.out) (by omega) HFB.out HKEY.out (HT.out.step B.out)
              rw [hm2] at hcall
              have HC := Aside0.mk hcall
              clear hcall hm2
              go_wp2_with fail
              refine HC.out.mono ?_
              rintro e w7 ⟨rfl, hb⟩
              have B7 := Aside0.mk (B.out.step hb)
              clear hb
              go_wp2_with fail
              go_ret
              exact ⟨rfl, B7.out⟩
theorem walk (A0 : Option Addr) (c0 : Nat) (l0 : List ByteArray) {w' : World} (hr0 : Kd.C Kd.string w' A0 l0.length l0) (hc0 : l0.length ≤ c0) (hs : ∀ s ∈ l0, s.size ≤ 9223372036854775807) (b : Int) (hb : (Lit.int .i64 b).wf = true) (A2 : Option Addr) (c2 : Nat) (l2 : List Int) {w'' : World} (hr2 : Kd.C (Kd.int .i64) w'' A2 l2.length l2) (hc2 : l2.length ≤ c2) (hw2 : ∀ x ∈ l2, (Lit.int .i64 x).wf = true) (y2 : l2.length * 8 ≤ 140737488351232) (key : ByteArray) (hk : key.size ≤ 140737488351232) (w : World) (hT : GT w) (e : w' = w := by rfl) (e2 : w'' = w := by rfl) :
    Calls Tryd.prog 6 #[.slice A0 l0.length c0, .int .i64 b, .slice A2 l2.length c2, .string key] w fun e w' => e = .returned (.bool true) ∧ Below w.heap.size w w' := by
  subst e e2
  have hx' : -9223372036854775808 ≤ b ∧ b ≤ 9223372036854775807 := by simpa [Lit.wf, IntKind.min, IntKind.max, IntKind.signed, IntKind.bits] using hb
  exact walk_ A0 c0 l0 b A2 c2 l2 key _ ⟨rfl, hc0, hr0⟩ hr0.2.1 hs hx'.1 hx'.2 ⟨rfl, hc2, hr2⟩ (by omega) (fun x hx => by have := hw2 x hx; simpa [Lit.wf, IntKind.min, IntKind.max, IntKind.signed, IntKind.bits] using this) (by omega) hT
end Go.Proofs.YtlcohooognjmaaaDoor.BloomOrder
