/- The walk of CodecFrames (this claim's own lemmas). -/
import Derived.Test.YtipefhadafildaaDoorWrapF
import Derived.Deep.DeepCutAuto
import Derived.Deep.CutBlock
namespace Go.Proofs.YtipefhadafildaaDoor.CodecFrames
open Go.RowKit Go.Proofs.YtipefhadafildaaDoorW.PrintWords Go.Proofs.YtipefhadafildaaDoor.Own Go.Proofs.YtipefhadafildaaDoor.Room Go.Proofs.YtipefhadafildaaDoor.WrapF Go.Proofs.YtipefhadafildaaDoor.G
set_option linter.unusedVariables false
theorem u8_xor_range {x y : Int} (hx : 0 ≤ x ∧ x ≤ 255) (hy : 0 ≤ y ∧ y ≤ 255) : 0 ≤ bits .xor .u8 x y ∧ bits .xor .u8 x y ≤ 255 := by
  obtain ⟨a, rfl⟩ := Int.eq_ofNat_of_zero_le hx.1
  obtain ⟨b, rfl⟩ := Int.eq_ofNat_of_zero_le hy.1
  rw [u8_xor_nat a b (by omega) (by omega)]
  have := Nat.xor_lt_two_pow (x := a) (y := b) (n := 8) (by omega) (by omega)
  constructor <;> omega
theorem Bytes_set {l : List Int} (h : Bytes l) (k : Nat) {x : Int} (hx : 0 ≤ x ∧ x ≤ 255) : Bytes (l.set k x) := fun y hy => by
  rcases List.mem_or_eq_of_mem_set hy with h1 | rfl
  · exact h y h1
  · exact hx
theorem bytes_rd {l : List Int} (hl : Bytes l) (k : Nat) (h : k < l.length) : 0 ≤ rd l k ∧ rd l k ≤ 255 := by
  simp only [rd, Int.toNat_natCast, List.getD_eq_getElem?_getD, List.getElem?_eq_getElem h, Option.getD_some]
  exact hl _ (List.getElem_mem h)
theorem bytes_frame {l : List Int} (hl : Bytes l) : Bytes (frameL l) := bytes_app (bytes_app (numL_bytes _) hl) (bytes_four (sumF_range (bytes_app (numL_bytes _) hl)))
theorem frame_len (l : List Int) (hl : l.length ≤ 1048576) : (frameL l).length ≤ 1048600 := by
  have := numL_len10 (n := l.length) (by omega)
  unfold frameL
  simp only [List.length_append, four_len]
  omega
theorem lent1 {w W : World} {g b cap : Nat} {l : List Int} {d cap2 : Nat} {r : List Int} {n m : Nat} (h : Sit2 w W g b cap l d cap2 r n m) : Rd W (some ⟨b, 0, none⟩) n (n + 600) l := by
  have h1 := h.row.reads (by have := h.len; have := h.nb; omega)
  have h2 := h.len
  rw [h2] at h1
  exact ⟨h2, by omega, h1⟩
theorem lent2 {w W : World} {g b cap : Nat} {l : List Int} {d cap2 : Nat} {r : List Int} {n m : Nat} (h : Sit2 w W g b cap l d cap2 r n m) : Rd W (some ⟨d, 0, none⟩) m (m + 600) r := by
  have h1 := h.row2.reads (by have := h.len2; have := h.nb2; omega)
  have h2 := h.len2
  rw [h2] at h1
  exact ⟨h2, by omega, h1⟩
theorem Rd.apart {base b d : Nat} {W : World} {A : Option Addr} {n c : Nat} {l : List Int} (h : Apart base b d W A n c l) : Rd W A n c l := by
  obtain ⟨h1, h2, h3⟩ := Kd.R_reads' h.2
  rw [← h1] at h3
  exact ⟨h.1, h2, by rw [← h.1]; rw [h1] at h3; exact h3⟩
theorem Rd.of_own {W : World} {base : Nat} {A : Option Addr} {n c : Nat} {l : List Int} (h : Kd.R (Kd.int .u8) 5 W base (fun _ => True) (.slice A n c) l) (hl : l.length = n) : Rd W A n c l := by
  obtain ⟨h1, h2, h3⟩ := Kd.R_reads' h
  subst hl
  exact ⟨rfl, h2, h3⟩
theorem own_block {W : World} {base n c : Nat} {ok : Nat → Prop} {A : Option Addr} {l : List Int} (h : Kd.R (Kd.int .u8) 5 W base ok (.slice A n c) l) (hn : 0 < n) : ∃ g, A = some ⟨g, 0, none⟩ ∧ base ≤ g := by
  obtain ⟨inner, hi⟩ := Kd.R_own h
  have hl := (Kd.R_reads' h).1
  obtain ⟨_, hh⟩ := hi
  rcases hh with ⟨hv, h0⟩ | ⟨g, cap, cur, hv, hb, _⟩
  · omega
  · injection hv with e1
    exact ⟨g, e1, hb⟩
set_option maxHeartbeats 4000000 in
set_option maxRecDepth 100000 in
theorem walk_ (A0 : Option Addr) (c0 : Nat) (l0 : List Int) (A1 : Option Addr) (c1 : Nat) (l1 : List Int) (a y : Int) (w : World) (hr0 : Rd w A0 l0.length c0 l0) (hr1 : Rd w A1 l1.length c1 l1) (hl0 : Bytes l0) (hl1 : Bytes l1) (hb0 : l0.length ≤ 1048576) (hb1 : l1.length ≤ 1048576) (ha1 : -9223372036854775808 ≤ a) (ha2 : a ≤ 9223372036854775807) (hy : 0 ≤ y ∧ y ≤ 255) (hT : GT w) :
    Calls Tryd.prog 4 #[.slice A0 l0.length c0, .slice A1 l1.length c1, .int .i64 a, .int .u8 y] w fun e w' => e = .returned (.bool true) ∧ Below w.heap.size w w' := by
  have HR0 := Aside0.mk hr0
  have HR1 := Aside0.mk hr1
  have HL0 := Aside0.mk hl0
  have HL1 := Aside0.mk hl1
  have HY := Aside0.mk hy
  have HT := Aside0.mk hT
  have hlen : l0.length ≤ 140737488351232 := by omega
  have hlen1 : l1.length ≤ 140737488351232 := by omega
  clear hr0 hr1 hl0 hl1 hT hy
  go_enter Tryd.func4, Tryd.ntmps4
  go_wp2_with fail
  refine (cBehind (l1 := l0) (l2 := []) HR0.out (Rd.nil _) (by omega)).mono ?_
  rintro e w1 ⟨Ak, nk, ck, lk, rfl, hlk, hrd, hR, hb1⟩
  obtain rfl : l0 = lk := by simpa using hlk.symm
  obtain ⟨rfl, hck, -⟩ := hrd
  have HK := Aside0.mk hR
  have HB := Aside0.mk hb1
  have HR1' := Aside0.mk (HR1.out.step hb1)
  clear hlk hR hb1
  go_wp2_with fail
  refine (cBehind (l1 := l1) (l2 := []) HR1'.out (Rd.nil _) (by omega)).mono ?_
  rintro e w2 ⟨Aw, nw, cw, lw, rfl, hlw, hrd, hR, hb2⟩
  obtain rfl : l1 = lw := by simpa using hlw.symm
  obtain ⟨rfl, hcw, -⟩ := hrd
  have HW := Aside0.mk (Kd.R_lower hR HB.out.size)
  have HK2 := Aside0.mk (Kd.R_below HK.out hb2)
  have HB2 := Aside0.mk (below_then HB.out HB.out.size hb2)
  clear hlw hR hb2 HK HB HR1'
  go_wp2_with fail
  refine (bytes_first HB2.out HR0.out.2.2 HR0.out.2.1 hlen).mono ?_
  rintro e w3 ⟨b, cap, rfl, hO⟩
  have HO := Aside0.mk hO
  clear hO
  go_wp2_with fail
  refine (bytes_second HO.out HR1.out.2.2 HR1.out.2.1 hlen hlen1 HT.out).mono ?_
  rintro e w4 ⟨d, cap2, rfl, hS, hfr, hsb, hsd⟩
  have RK := Aside0.mk (apart_of HK2.out rfl hfr hsb hsd rfl)
  have RW := Aside0.mk (apart_of HW.out rfl hfr hsb hsd rfl)
  generalize w2.heap.size = g at hS ⊢
  have S := Aside0.mk hS
  clear hS hfr hsb hsd HO HK2 HW HB2 HT HR0 HR1 w3 w2 w1
  go_wp2_with fail
  refine (cFrame (lent1 S.out) (by omega) HL0.out S.out.tab).mono ?_
  rintro e w5 ⟨A5, n5, c5, r5, rfl, h5, hd5, -, hb5⟩
  have S5 := Aside0.mk (S.out.step hb5)
  have Rkept_5 := Aside0.mk (RK.out.step hb5)
  have Rwas_5 := Aside0.mk (RW.out.step hb5)
  have Rf_5 := Aside0.mk hd5
  have Hf := Aside0.mk h5
  clear h5 hd5 hb5 S RK RW w4
  have hlf := frame_len l0 (by omega)
  have hnf : r5.length = n5 := Rf_5.out.1
  rw [Hf.out] at hnf
  have HLF := Aside0.mk (And.intro hlf hnf)
  have HFB := Aside0.mk (bytes_frame HL0.out)
  clear hlf hnf
  go_wp2_with fail
  refine (cRefFrame (Rd.apart Rkept_5.out) (by omega) HL0.out).mono ?_
  rintro e w6 ⟨A6, n6, c6, r6, rfl, h6, hd6, -, hb6⟩
  have S6 := Aside0.mk (S5.out.step hb6)
  have Rkept_6 := Aside0.mk (Rkept_5.out.step hb6)
  have Rwas_6 := Aside0.mk (Rwas_5.out.step hb6)
  have Rf_6 := Aside0.mk (Rf_5.out.step hb6)
  have Rrf_6 := Aside0.mk hd6
  have Hrf := Aside0.mk h6
  clear h6 hd6 hb6 S5 Rkept_5 Rwas_5 Rf_5 w5
  go_wp2_with fail
  refine (cSame Rf_6.out Rrf_6.out (by rw [Hf.out, Hrf.out])).mono ?_
  rintro e w7 ⟨rfl, hb7⟩
  have S7 := Aside0.mk (S6.out.step hb7)
  have Rkept_7 := Aside0.mk (Rkept_6.out.step hb7)
  have Rwas_7 := Aside0.mk (Rwas_6.out.step hb7)
  have Rf_7 := Aside0.mk (Rf_6.out.step hb7)
  have Rrf_7 := Aside0.mk (Rrf_6.out.step hb7)
  clear hb7 S6 Rkept_6 Rwas_6 Rf_6 Rrf_6 w6
  clear Rrf_7 Hrf
  go_wp2_with fail
  refine (cBehind Rf_7.out (Rd.nil _) (by have := HLF.out; omega)).mono ?_
  rintro e w8 ⟨A8, n8, c8, r8, rfl, h8, hd8, -, hb8⟩
  have S8 := Aside0.mk (S7.out.step hb8)
  have Rkept_8 := Aside0.mk (Rkept_7.out.step hb8)
  have Rwas_8 := Aside0.mk (Rwas_7.out.step hb8)
  have Rf_8 := Aside0.mk (Rf_7.out.step hb8)
  have Rff_8 := Aside0.mk hd8
  have Hff := Aside0.mk h8
  clear h8 hd8 hb8 S7 Rkept_7 Rwas_7 Rf_7 w7
  go_wp2_with fail
  refine (cFrameOf Rf_8.out Rff_8.out (by rw [Hff.out, List.append_nil]) (by rw [Hf.out]; exact HFB.out) (by have := HLF.out; omega) S8.out.tab).mono ?_
  rintro e w9 ⟨rfl, hb9⟩
  have S9 := Aside0.mk (S8.out.step hb9)
  have Rkept_9 := Aside0.mk (Rkept_8.out.step hb9)
  have Rwas_9 := Aside0.mk (Rwas_8.out.step hb9)
  have Rf_9 := Aside0.mk (Rf_8.out.step hb9)
  have Rff_9 := Aside0.mk (Rff_8.out.step hb9)
  clear hb9 S8 Rkept_8 Rwas_8 Rf_8 Rff_8 w8
  clear Rff_9 Hff
  go_wp2_with fail
  refine (cFrameOf (lent2 S9.out) (Rd.apart Rwas_9.out) rfl HL1.out (by omega) S9.out.tab).mono ?_
  rintro e w10 ⟨rfl, hb10⟩
  have S10 := Aside0.mk (S9.out.step hb10)
  have Rkept_10 := Aside0.mk (Rkept_9.out.step hb10)
  have Rwas_10 := Aside0.mk (Rwas_9.out.step hb10)
  have Rf_10 := Aside0.mk (Rf_9.out.step hb10)
  clear hb10 S9 Rkept_9 Rwas_9 Rf_9 w9
  go_wp2_with fail
  refine (cFrameOf (lent2 S10.out) (Rd.apart Rwas_10.out) rfl HL1.out (by omega) S10.out.tab).mono ?_
  rintro e w11 ⟨rfl, hb11⟩
  have S11 := Aside0.mk (S10.out.step hb11)
  have Rkept_11 := Aside0.mk (Rkept_10.out.step hb11)
  have Rwas_11 := Aside0.mk (Rwas_10.out.step hb11)
  have Rf_11 := Aside0.mk (Rf_10.out.step hb11)
  clear hb11 S10 Rkept_10 Rwas_10 Rf_10 w10
  go_wp2_with fail
  refine (cBehind Rf_11.out (Rd.apart Rwas_11.out) (by have := HLF.out; omega)).mono ?_
  rintro e w12 ⟨Af, nf, cf, rf, rfl, hf, hdf, hRf, hb⟩
  have HBf : Aside0 (Below w11.heap.size w11 w12) := ⟨hb⟩
  have HRf := Aside0.mk hRf
  have hlen : rf.length = nf := hdf.1
  have hlen2 : nf ≤ 2097180 := by rw [← hlen, hf, Hf.out, List.length_append]; have := HLF.out.1; omega
  have HFF : Aside0 (Bytes rf) := ⟨by rw [hf, Hf.out]; exact bytes_app HFB.out HL1.out⟩
  have HLEN := Aside0.mk hlen
  clear hf hdf hRf hb hlen HLF HFB Hf Rf_11
  go_upto_region 8 with fail
  go_cut [65] (fun s65 wx => (∃ tb : Bool, s65 = .bool tb ∧ tb = decide (0 ≤ a ∧ a < (nf : Int))) ∧ wx = w12)
  case first =>
    by_cases h0 : 0 ≤ a
    · skip
      have d0 : decide (0 ≤ a) = true := decide_eq_true h0
      have dt : ∃ tb : Bool, (decide (a < (nf : Int))) = tb ∧ tb = decide (0 ≤ a ∧ a < (nf : Int)) := ⟨_, rfl, by simp [h0]⟩
      obtain ⟨tb, dt1, dt2⟩ := dt
      have DT := Aside0.mk dt2
      clear dt2
      go_wp2_with fail
      go_meet
      case rel => exact ⟨⟨tb, rfl, DT.out⟩, rfl⟩
    · skip
      have d0 : decide (0 ≤ a) = false := decide_eq_false h0
      go_wp2_with fail
      go_meet
      case rel => exact ⟨⟨false, rfl, (decide_eq_false (fun h => by omega)).symm⟩, rfl⟩
  case rest =>
    obtain ⟨⟨tb, rfl, htb⟩, rfl⟩ := hcut
    have HTB := Aside0.mk htb
    clear htb
    go_upto_if 65 with fail
    go_cut [] (fun wx => ∃ lf : List Int, Aside0 (lf.length = nf) ∧ Aside0 (Bytes lf) ∧ Aside0 (Rd wx Af nf cf lf) ∧ Aside0 (Below w11.heap.size w11 wx))
    case first =>
      cases tb
      · skip
        go_wp2_with fail
        go_meet
        case rel => exact ⟨rf, HLEN, HFF, ⟨Rd.of_own HRf.out HLEN.out⟩, HBf⟩
      · skip
        obtain ⟨h0, h1⟩ := of_decide_eq_true HTB.out.symm
        obtain ⟨K, rfl⟩ := Int.eq_ofNat_of_zero_le h0
        have h1n : K < nf := by omega
        have hcx := HLEN.out
        obtain ⟨gf, rfl, hgf⟩ := own_block HRf.out (by omega)
        obtain ⟨hcell, hfz⟩ := Kd.R_celln (0 : Int) HRf.out (K : Int) (by omega) (by omega)
        have HBB := Aside0.mk (bytes_rd HFF.out K (by omega))
        have HPUT := Aside0.mk (Kd.R_putn HRf.out (K : Int) (bits .xor .u8 (rdOf (0 : Int) rf (K : Int)) (y : Int)))
        rw [Int.toNat_natCast] at hcell hfz
        clear hcx
        go_wp2_with fail
        go_meet
        case rel => exact ⟨rf.set K _, ⟨by rw [List.length_set]; exact HLEN.out⟩, ⟨Bytes_set HFF.out K (u8_xor_range HBB.out ⟨HY.out.1, HY.out.2⟩)⟩, ⟨Rd.of_own HPUT.out (by rw [List.length_set]; exact HLEN.out)⟩, ⟨below_set HBf.out hgf⟩⟩
    case rest =>
      obtain ⟨lf, HLf, HBy, RF, HBx⟩ := hcut
      have S9 := Aside0.mk (S11.out.step HBx.out)
      have RK9 := Aside0.mk (Rkept_11.out.step HBx.out)
      have RW9 := Aside0.mk (Rwas_11.out.step HBx.out)
      clear S11 Rkept_11 Rwas_11 HBf HBx HRf HFF HLEN
      go_wp2_with fail
      refine (cBehind RF.out (Rd.nil _) (by omega)).mono ?_
      rintro e w13 ⟨A13, n13, c13, r13, rfl, h13, hd13, -, hb13⟩
      have S13 := Aside0.mk (S9.out.step hb13)
      have Rkept_13 := Aside0.mk (RK9.out.step hb13)
      have Rwas_13 := Aside0.mk (RW9.out.step hb13)
      have RF_13 := Aside0.mk (RF.out.step hb13)
      have Rg_13 := Aside0.mk hd13
      have Hg := Aside0.mk h13
      clear h13 hd13 hb13 S9 RK9 RW9 RF 
      go_wp2_with fail
      refine (cFrameOf RF_13.out Rg_13.out (by rw [Hg.out, List.append_nil]) HBy.out (by omega) S13.out.tab).mono ?_
      rintro e w14 ⟨rfl, hb14⟩
      have S14 := Aside0.mk (S13.out.step hb14)
      have Rkept_14 := Aside0.mk (Rkept_13.out.step hb14)
      have Rwas_14 := Aside0.mk (Rwas_13.out.step hb14)
      have RF_14 := Aside0.mk (RF_13.out.step hb14)
      have Rg_14 := Aside0.mk (Rg_13.out.step hb14)
      clear hb14 S13 Rkept_13 Rwas_13 RF_13 Rg_13 w13
      clear Rg_14 Hg
      clear RF_14
      go_wp2_with fail
      refine (cSame (lent1 S14.out) (Rd.apart Rkept_14.out) rfl).mono ?_
      rintro e w15 ⟨rfl, hb15⟩
      have S15 := Aside0.mk (S14.out.step hb15)
      have Rkept_15 := Aside0.mk (Rkept_14.out.step hb15)
      have Rwas_15 := Aside0.mk (Rwas_14.out.step hb15)
      clear hb15 S14 Rkept_14 Rwas_14 w14
      clear Rkept_15
      go_wp2_with fail
      refine (cSame (lent2 S15.out) (Rd.apart Rwas_15.out) rfl).mono ?_
      rintro e w16 ⟨rfl, hb16⟩
      have S16 := Aside0.mk (S15.out.step hb16)
      have Rwas_16 := Aside0.mk (Rwas_15.out.step hb16)
      clear hb16 S15 Rwas_15 w15
      go_wp2_with fail
      obtain ⟨F17, hRm17, hFb17⟩ := S16.out.room
      refine (hold_calls w16 _ F17 g _ hRm17 (by simp)).mono ?_
      rintro e w17 ⟨rfl, rfl⟩
      clear hRm17 hFb17 F17
      go_wp2_with fail
      go_loopw [15] (fun i wr => ∃ (k : Nat) (lr : List Int), k ≤ l1.length ∧ i = .int .i64 k ∧ Aside0 (Bytes lr) ∧ Aside0 (Sit2 w wr g b cap l0 d cap2 lr l0.length l1.length) ∧ Aside0 (Apart w.heap.size b d wr Aw l1.length cw l1)) (fun i _ => l1.length - (intOf i).toNat)
      case atStart => exact ⟨0, l1, by omega, rfl, HL1, S16, Rwas_16⟩
      case round =>
        clear S16 Rwas_16
        obtain ⟨k, lr, hk, rfl, HBR, S, RW⟩ := hrel
        by_cases hlt : k < l1.length
        · skip
          have hcell := S.out.row2.cell k (by rw [S.out.len2]; exact hlt)
          have hfz := S.out.row2.frozen k
          have HB1 := Aside0.mk (bytes_rd HBR.out k (by rw [S.out.len2]; exact hlt))
          go_wp2_with fail
          exact ⟨⟨k + 1, lr.set k _, by omega, by go_num, ⟨Bytes_set HBR.out k (u8_xor_range HB1.out ⟨by omega, by omega⟩)⟩, ⟨S.out.set2 k (by rw [S.out.len2]; exact hlt) _⟩, ⟨RW.out.set2 k _⟩⟩, by simp [intOf]; omega⟩
        · skip
          go_wp2_with fail
          go_loopw [16] (fun i wr => ∃ (k : Nat) (l : List Int), k ≤ l0.length ∧ i = .int .i64 k ∧ Aside0 (Bytes l) ∧ Aside0 (Sit2 w wr g b cap l d cap2 lr l0.length l1.length) ∧ Aside0 (Apart w.heap.size b d wr Aw l1.length cw l1)) (fun i _ => l0.length - (intOf i).toNat)
          case atStart => exact ⟨0, l0, by omega, rfl, HL0, S, RW⟩
          case round =>
            clear S RW
            obtain ⟨k, l, hk, rfl, HBL, S, RW⟩ := hrel
            by_cases hlt : k < l0.length
            · skip
              have hcell := S.out.row.cell k (by rw [S.out.len]; exact hlt)
              have hfz := S.out.row.frozen k
              have HB1 := Aside0.mk (bytes_rd HBL.out k (by rw [S.out.len]; exact hlt))
              go_wp2_with fail
              exact ⟨⟨k + 1, l.set k _, by omega, by go_num, ⟨Bytes_set HBL.out k (u8_xor_range HB1.out ⟨by omega, by omega⟩)⟩, ⟨S.out.set k (by rw [S.out.len]; exact hlt) _⟩, ⟨RW.out.set k _⟩⟩, by simp [intOf]; omega⟩
            · skip
              go_wp2_with fail
              refine (cBehind (lent2 S.out) (Rd.nil _) (by omega)).mono ?_
              rintro e w18 ⟨A18, n18, c18, r18, rfl, h18, hd18, -, hb18⟩
              have S18 := Aside0.mk (S.out.step hb18)
              have Rwas_18 := Aside0.mk (RW.out.step hb18)
              have Ru_18 := Aside0.mk hd18
              have Hu := Aside0.mk h18
              clear h18 hd18 hb18 S RW w17
              go_wp2_with fail
              refine (cFrameOf (lent2 S18.out) Ru_18.out (by rw [Hu.out, List.append_nil]) HBR.out (by omega) S18.out.tab).mono ?_
              rintro e w19 ⟨rfl, hb19⟩
              have S19 := Aside0.mk (S18.out.step hb19)
              have Rwas_19 := Aside0.mk (Rwas_18.out.step hb19)
              have Ru_19 := Aside0.mk (Ru_18.out.step hb19)
              clear hb19 S18 Rwas_18 Ru_18 w18
              clear Ru_19 Hu
              go_wp2_with fail
              refine (cBehind (Rd.apart Rwas_19.out) (Rd.nil _) (by omega)).mono ?_
              rintro e w20 ⟨A20, n20, c20, r20, rfl, h20, hd20, -, hb20⟩
              have S20 := Aside0.mk (S19.out.step hb20)
              have Rwas_20 := Aside0.mk (Rwas_19.out.step hb20)
              have Ru_20 := Aside0.mk hd20
              have Hu := Aside0.mk h20
              clear h20 hd20 hb20 S19 Rwas_19 w19
              go_wp2_with fail
              refine (cFrameOf (Rd.apart Rwas_20.out) Ru_20.out (by rw [Hu.out, List.append_nil]) HL1.out (by omega) S20.out.tab).mono ?_
              rintro e w21 ⟨rfl, hb21⟩
              have S21 := Aside0.mk (S20.out.step hb21)
              have Rwas_21 := Aside0.mk (Rwas_20.out.step hb21)
              have Ru_21 := Aside0.mk (Ru_20.out.step hb21)
              clear hb21 S20 Rwas_20 Ru_20 w20
              clear Ru_21 Hu
              clear Rwas_21
              go_wp2_with fail
              refine (cFrame (lent1 S21.out) (by omega) HBL.out S21.out.tab).mono ?_
              rintro e w22 ⟨A22, n22, c22, r22, rfl, h22, hd22, -, hb22⟩
              have S22 := Aside0.mk (S21.out.step hb22)
              have Rp_22 := Aside0.mk hd22
              have Hp := Aside0.mk h22
              clear h22 hd22 hb22 S21 w21
              go_wp2_with fail
              refine (cBehind (lent1 S22.out) (Rd.nil _) (by omega)).mono ?_
              rintro e w23 ⟨A23, n23, c23, r23, rfl, h23, hd23, -, hb23⟩
              have S23 := Aside0.mk (S22.out.step hb23)
              have Rp_23 := Aside0.mk (Rp_22.out.step hb23)
              have Ru_23 := Aside0.mk hd23
              have Hu := Aside0.mk h23
              clear h23 hd23 hb23 S22 Rp_22 w22
              have HU : Aside0 (r23 = l) := ⟨by rw [Hu.out, List.append_nil]⟩
              obtain rfl : n23 = l0.length := by rw [← Ru_23.out.1, HU.out]; exact S23.out.len
              go_wp2_with fail
              refine (cRefFrame Ru_23.out (by omega) (by rw [HU.out]; exact HBL.out)).mono ?_
              rintro e w24 ⟨A24, n24, c24, r24, rfl, h24, hd24, -, hb24⟩
              have S24 := Aside0.mk (S23.out.step hb24)
              have Rp_24 := Aside0.mk (Rp_23.out.step hb24)
              have Ru_24 := Aside0.mk (Ru_23.out.step hb24)
              have Rq_24 := Aside0.mk hd24
              have Hq := Aside0.mk h24
              clear h24 hd24 hb24 S23 Rp_23 Ru_23 w23
              go_wp2_with fail
              refine (cSame Rp_24.out Rq_24.out (by rw [Hp.out, Hq.out, HU.out])).mono ?_
              rintro e w25 ⟨rfl, hb25⟩
              have S25 := Aside0.mk (S24.out.step hb25)
              have Rp_25 := Aside0.mk (Rp_24.out.step hb25)
              have Ru_25 := Aside0.mk (Ru_24.out.step hb25)
              have Rq_25 := Aside0.mk (Rq_24.out.step hb25)
              clear hb25 S24 Rp_24 Ru_24 Rq_24 w24
              clear Rp_25 Rq_25 Hp Hq
              go_wp2_with fail
              obtain ⟨F26, hRm26, hFb26⟩ := S25.out.room
              refine (hold_calls w25 _ F26 g _ hRm26 (by simp)).mono ?_
              rintro e w26 ⟨rfl, rfl⟩
              clear hRm26 hFb26 F26
              go_wp2_with fail
              go_ret
              exact ⟨rfl, S25.out.below⟩
theorem walk (A0 : Option Addr) (c0 : Nat) (l0 : List Int) {w' : World} (hr0 : Kd.C (Kd.int .u8) w' A0 l0.length l0) (hc0 : l0.length ≤ c0) (hw0 : ∀ x ∈ l0, (Lit.int .u8 x).wf = true) (y0 : l0.length * 1 ≤ 140737488351232) (up0 : l0.length ≤ 1048576) (A1 : Option Addr) (c1 : Nat) (l1 : List Int) {w'' : World} (hr1 : Kd.C (Kd.int .u8) w'' A1 l1.length l1) (hc1 : l1.length ≤ c1) (hw1 : ∀ x ∈ l1, (Lit.int .u8 x).wf = true) (y2 : l1.length * 1 ≤ 140737488351232) (up2 : l1.length ≤ 1048576) (a : Int) (ha : (Lit.int .i64 a).wf = true) (y : Int) (hy : (Lit.int .u8 y).wf = true) (w : World) (hT : GT w) (e : w' = w := by rfl) (e2 : w'' = w := by rfl) :
    Calls Tryd.prog 4 #[.slice A0 l0.length c0, .slice A1 l1.length c1, .int .i64 a, .int .u8 y] w fun e w' => e = .returned (.bool true) ∧ Below w.heap.size w w' := by
  subst e e2
  have hx' : -9223372036854775808 ≤ a ∧ a ≤ 9223372036854775807 := by simpa [Lit.wf, IntKind.min, IntKind.max, IntKind.signed, IntKind.bits] using ha
  have hy' : 0 ≤ y ∧ y ≤ 255 := by simpa [Lit.wf, IntKind.min, IntKind.max, IntKind.signed, IntKind.bits] using hy
  exact walk_ A0 c0 l0 A1 c1 l1 a y _ ⟨rfl, hc0, hr0⟩ ⟨rfl, hc1, hr1⟩ (bytes_wf hw0) (bytes_wf hw1) up0 up2 hx'.1 hx'.2 hy' hT
end Go.Proofs.YtipefhadafildaaDoor.CodecFrames
