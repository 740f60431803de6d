/- The walk of CodecUints (this claim's own lemmas). -/
import Derived.Test.YtipefhadafildaaWrap
namespace Go.Proofs.Ytipefhadafildaa.CodecUints
open Go.RowKit Go.Proofs.YtipefhadafildaaW.PrintWords Go.Proofs.Ytipefhadafildaa.Own Go.Proofs.Ytipefhadafildaa.Room Go.Proofs.Ytipefhadafildaa.Wrap
set_option linter.unusedVariables false
theorem u8_xor_range {x y : Int} (hx : 0 ≤ x ∧ x ≤ 255) (hy : 0 ≤ y ∧ y ≤ 255) : 0 ≤ bits .xor .u8 x y ∧ bits .xor .u8 x y ≤ 255 := by
  obtain ⟨a, rfl⟩ := Int.eq_ofNat_of_zero_le hx.1
  obtain ⟨b, rfl⟩ := Int.eq_ofNat_of_zero_le hy.1
  rw [u8_xor_nat a b (by omega) (by omega)]
  have := Nat.xor_lt_two_pow (x := a) (y := b) (n := 8) (by omega) (by omega)
  constructor <;> omega
theorem Bytes_set {l : List Int} (h : Bytes l) (k : Nat) {x : Int} (hx : 0 ≤ x ∧ x ≤ 255) : Bytes (l.set k x) := fun y hy => by
  rcases List.mem_or_eq_of_mem_set hy with h1 | rfl
  · exact h y h1
  · exact hx
theorem bytes_rd {l : List Int} (hl : Bytes l) (k : Nat) (h : k < l.length) : 0 ≤ rd l k ∧ rd l k ≤ 255 := by
  simp only [rd, Int.toNat_natCast, List.getD_eq_getElem?_getD, List.getElem?_eq_getElem h, Option.getD_some]
  exact hl _ (List.getElem_mem h)
set_option maxHeartbeats 2000000 in
set_option maxRecDepth 100000 in
theorem walk_ (A0 : Option Addr) (c0 : Nat) (l0 : List Int) (x : Int) (w : World) (hr0 : Kd.C (Kd.int .u8) w A0 l0.length l0) (hc0 : l0.length ≤ c0) (hl : Bytes l0) (hlen : l0.length ≤ 140737488351232) (hx0 : 0 ≤ x) (hx1 : x < 18446744073709551616) :
    Calls Try.prog 4 #[.slice A0 l0.length c0, .int .u64 x] w fun e w' => e = .returned (.bool true) ∧ Below w.heap.size w w' := by
  have HR0 := Aside0.mk hr0
  have HL := Aside0.mk hl
  clear hr0 hl
  have HX1 := Aside0.mk hx1
  have HX0 := Aside0.mk hx0
  have H10 := Aside0.mk (numL_len10 (n := x.toNat) (by omega))
  clear hx1 hx0
  go_enter Try.func4, Try.ntmps4
  go_wp2_with fail
  refine (cBehind (l1 := l0) (l2 := []) ⟨rfl, hc0, HR0.out⟩ (Rd.nil _) (by omega)).mono ?_
  rintro e w1 ⟨Ak, nk, ck, lk, rfl, hlk, hrd, hR, hb1⟩
  obtain rfl : lk = l0 := by simpa using hlk
  obtain ⟨rfl, hck, -⟩ := hrd
  have HK := Aside0.mk hR
  have HB := Aside0.mk hb1
  clear hlk hR hb1
  go_wp2_with fail
  refine (bytes_new HB.out HR0.out hc0 hlen HK.out).mono ?_
  rintro e w2 ⟨b, cap, rfl, hS⟩
  generalize w1.heap.size = g at hS ⊢
  have S := Aside0.mk hS
  clear hS HB HK w1
  go_wp2_with fail
  refine (cPutUint (Rd.lent S.out) (by omega) HX0.out HX1.out).mono ?_
  rintro e w3 ⟨A3, n3, c3, r3, rfl, h3, hd3, -, hb3⟩
  have S3 := Aside0.mk (S.out.step hb3)
  have Ra_3 := Aside0.mk hd3
  have Ha := Aside0.mk h3
  clear h3 hd3 hb3 S w2
  go_wp2_with fail
  refine (cNumber HX0.out HX1.out).mono ?_
  rintro e w4 ⟨A4, n4, c4, r4, rfl, h4, hd4, -, hb4⟩
  have S4 := Aside0.mk (S3.out.step hb4)
  have Ra_4 := Aside0.mk (Ra_3.out.step hb4)
  have Rb_4 := Aside0.mk hd4
  have Hb := Aside0.mk h4
  clear h4 hd4 hb4 S3 Ra_3 w3
  go_wp2_with fail
  refine (cBehind (Rd.kept S4.out rfl) Rb_4.out (by have h1 := Rb_4.out.1; have h2 := H10.out; rw [Hb.out] at h1; omega)).mono ?_
  rintro e w5 ⟨A5, n5, c5, r5, rfl, h5, hd5, -, hb5⟩
  have S5 := Aside0.mk (S4.out.step hb5)
  have Ra_5 := Aside0.mk (Ra_4.out.step hb5)
  have Rb_5 := Aside0.mk (Rb_4.out.step hb5)
  have Rc_5 := Aside0.mk hd5
  have Hc := Aside0.mk h5
  clear h5 hd5 hb5 S4 Ra_4 Rb_4 w4
  go_wp2_with fail
  refine (cSame Ra_5.out Rc_5.out (by rw [Ha.out, Hc.out, Hb.out])).mono ?_
  rintro e w6 ⟨rfl, hb6⟩
  have S6 := Aside0.mk (S5.out.step hb6)
  have Ra_6 := Aside0.mk (Ra_5.out.step hb6)
  have Rb_6 := Aside0.mk (Rb_5.out.step hb6)
  have Rc_6 := Aside0.mk (Rc_5.out.step hb6)
  clear hb6 S5 Ra_5 Rb_5 Rc_5 w5
  clear Ra_6 Rb_6 Rc_6 Ha Hb Hc
  go_wp2_with fail
  refine (cPutUint (Rd.nil _) (by omega) HX0.out HX1.out).mono ?_
  rintro e w7 ⟨A7, n7, c7, r7, rfl, h7, hd7, -, hb7⟩
  have S7 := Aside0.mk (S6.out.step hb7)
  have Ra_7 := Aside0.mk hd7
  have Ha := Aside0.mk h7
  clear h7 hd7 hb7 S6 w6
  go_wp2_with fail
  refine (cNumber HX0.out HX1.out).mono ?_
  rintro e w8 ⟨A8, n8, c8, r8, rfl, h8, hd8, -, hb8⟩
  have S8 := Aside0.mk (S7.out.step hb8)
  have Ra_8 := Aside0.mk (Ra_7.out.step hb8)
  have Rb_8 := Aside0.mk hd8
  have Hb := Aside0.mk h8
  clear h8 hd8 hb8 S7 Ra_7 w7
  go_wp2_with fail
  refine (cSame Ra_8.out Rb_8.out (by rw [Ha.out, Hb.out]; rfl)).mono ?_
  rintro e w9 ⟨rfl, hb9⟩
  have S9 := Aside0.mk (S8.out.step hb9)
  have Ra_9 := Aside0.mk (Ra_8.out.step hb9)
  have Rb_9 := Aside0.mk (Rb_8.out.step hb9)
  clear hb9 S8 Ra_8 Rb_8 w8
  clear Ra_9 Rb_9 Ha Hb
  go_wp2_with fail
  go_loopw [8] (fun i wr => ∃ k : Nat, k ≤ 3 ∧ i = .int .i64 k ∧ Aside0 (Sit w wr g b lk.length cap lk Ak ck lk)) (fun i _ => 3 - (intOf i).toNat)
  case atStart => exact ⟨0, by omega, rfl, S9⟩
  case round =>
    clear S9
    obtain ⟨k, hk, rfl, S⟩ := hrel
    by_cases hlt : k < 3
    · skip
      go_wp2_with fail
      refine (cUintOf (Rd.lent S.out) (Rd.kept S.out rfl) (by omega) HL.out (by rfl)).mono ?_
      rintro e w10 ⟨rfl, hb10⟩
      have S10 := Aside0.mk (S.out.step hb10)
      clear hb10 S wr
      go_wp2_with fail
      exact ⟨⟨k + 1, by omega, by go_num, S10⟩, by simp [intOf]; omega⟩
    · skip
      go_wp2_with fail
      refine (cSame (Rd.lent S.out) (Rd.kept S.out rfl) rfl).mono ?_
      rintro e w11 ⟨rfl, hb11⟩
      have S11 := Aside0.mk (S.out.step hb11)
      clear hb11 S wr
      go_wp2_with fail
      obtain ⟨F12, hRm12, hFb12⟩ := S11.out.room
      refine (hold_calls w11 _ F12 g _ hRm12 (by simp)).mono ?_
      rintro e w12 ⟨rfl, rfl⟩
      clear hRm12 hFb12 F12
      go_wp2_with fail
      go_loopw [9] (fun i wr => ∃ (k : Nat) (l : List Int), k ≤ max lk.length 1 ∧ i = .int .i64 k ∧ Aside0 (Bytes l) ∧ Aside0 (Sit w wr g b lk.length cap l Ak ck lk)) (fun i _ => lk.length - (intOf i).toNat)
      case atStart => exact ⟨0, lk, by omega, rfl, HL, S11⟩
      case round =>
        clear S11
        obtain ⟨k, l, hk, rfl, HBY, S⟩ := hrel
        by_cases hlt : k < lk.length
        · skip
          have hcell := S.out.row.cell k (by rw [S.out.len]; exact hlt)
          have hfz := S.out.row.frozen k
          have hb1 := bytes_rd HBY.out k (by rw [S.out.len]; exact hlt)
          go_wp2_with fail
          have hbx := u8_xor_range hb1 (y := 128) ⟨by omega, by omega⟩
          exact ⟨⟨k + 1, l.set k (bits .xor .u8 (rd l k) 128), by omega, by go_num, ⟨Bytes_set HBY.out k (hbx)⟩, ⟨S.out.set k (by rw [S.out.len]; exact hlt) _⟩⟩, by simp [intOf]; omega⟩
        · skip
          have hll : Aside0 (l.length = lk.length) := ⟨S.out.len⟩
          go_wp2_with fail
          refine (cBehind (l1 := l) (l2 := []) (Rd.lent S.out) (Rd.nil _) (by omega)).mono ?_
          rintro e w13 ⟨A13, n13, c13, r13, rfl, h13, hd13, -, hb13⟩
          have S13 := Aside0.mk (S.out.step hb13)
          have Rnow_13 := Aside0.mk hd13
          have Hnow := Aside0.mk h13
          clear h13 hd13 hb13 S wr
          have HN : Aside0 (r13 = l) := ⟨by rw [Hnow.out]; simp⟩
          go_wp2_with fail
          refine (cUintOf (Rd.lent S13.out) Rnow_13.out (by omega) HBY.out (by rw [HN.out])).mono ?_
          rintro e w14 ⟨rfl, hb14⟩
          have S14 := Aside0.mk (S13.out.step hb14)
          have Rnow_14 := Aside0.mk (Rnow_13.out.step hb14)
          clear hb14 S13 Rnow_13 w13
          go_wp2_with fail
          refine (cBehind (l1 := lk) (l2 := []) (Rd.kept S14.out rfl) (Rd.nil _) (by omega)).mono ?_
          rintro e w15 ⟨A15, n15, c15, r15, rfl, h15, hd15, -, hb15⟩
          have S15 := Aside0.mk (S14.out.step hb15)
          have Rnow_15 := Aside0.mk (Rnow_14.out.step hb15)
          have Rkk_15 := Aside0.mk hd15
          have Hkk := Aside0.mk h15
          clear h15 hd15 hb15 S14 Rnow_14 w14
          go_wp2_with fail
          refine (cUintOf (Rd.kept S15.out rfl) Rkk_15.out (by omega) HL.out (by rw [Hkk.out]; simp)).mono ?_
          rintro e w16 ⟨rfl, hb16⟩
          have S16 := Aside0.mk (S15.out.step hb16)
          have Rnow_16 := Aside0.mk (Rnow_15.out.step hb16)
          have Rkk_16 := Aside0.mk (Rkk_15.out.step hb16)
          clear hb16 S15 Rnow_15 Rkk_15 w15
          clear Rkk_16 Hkk
          go_wp2_with fail
          refine (cPutUint (Rd.lent S16.out) (by omega) HX0.out HX1.out).mono ?_
          rintro e w17 ⟨A17, n17, c17, r17, rfl, h17, hd17, -, hb17⟩
          have S17 := Aside0.mk (S16.out.step hb17)
          have Rnow_17 := Aside0.mk (Rnow_16.out.step hb17)
          have Ra_17 := Aside0.mk hd17
          have Ha := Aside0.mk h17
          clear h17 hd17 hb17 S16 Rnow_16 w16
          go_wp2_with fail
          refine (cNumber HX0.out HX1.out).mono ?_
          rintro e w18 ⟨A18, n18, c18, r18, rfl, h18, hd18, -, hb18⟩
          have S18 := Aside0.mk (S17.out.step hb18)
          have Rnow_18 := Aside0.mk (Rnow_17.out.step hb18)
          have Ra_18 := Aside0.mk (Ra_17.out.step hb18)
          have Rb_18 := Aside0.mk hd18
          have Hb := Aside0.mk h18
          clear h18 hd18 hb18 S17 Rnow_17 Ra_17 w17
          go_wp2_with fail
          refine (cBehind Rnow_18.out Rb_18.out (by have h1 := Rnow_18.out.1; rw [HN.out, hll.out] at h1; have h3 := H10.out; have h4 := Rb_18.out.1; rw [Hb.out] at h4; omega)).mono ?_
          rintro e w19 ⟨A19, n19, c19, r19, rfl, h19, hd19, -, hb19⟩
          have S19 := Aside0.mk (S18.out.step hb19)
          have Rnow_19 := Aside0.mk (Rnow_18.out.step hb19)
          have Ra_19 := Aside0.mk (Ra_18.out.step hb19)
          have Rb_19 := Aside0.mk (Rb_18.out.step hb19)
          have Rc_19 := Aside0.mk hd19
          have Hc := Aside0.mk h19
          clear h19 hd19 hb19 S18 Rnow_18 Ra_18 Rb_18 w18
          go_wp2_with fail
          refine (cSame Ra_19.out Rc_19.out (by rw [Ha.out, Hc.out, Hb.out, HN.out])).mono ?_
          rintro e w20 ⟨rfl, hb20⟩
          have S20 := Aside0.mk (S19.out.step hb20)
          have Rnow_20 := Aside0.mk (Rnow_19.out.step hb20)
          have Ra_20 := Aside0.mk (Ra_19.out.step hb20)
          have Rb_20 := Aside0.mk (Rb_19.out.step hb20)
          have Rc_20 := Aside0.mk (Rc_19.out.step hb20)
          clear hb20 S19 Rnow_19 Ra_19 Rb_19 Rc_19 w19
          clear Ra_20 Rb_20 Rc_20 Ha Hb Hc
          go_wp2_with fail
          refine (cSame (Rd.lent S20.out) Rnow_20.out (by rw [HN.out])).mono ?_
          rintro e w21 ⟨rfl, hb21⟩
          have S21 := Aside0.mk (S20.out.step hb21)
          have Rnow_21 := Aside0.mk (Rnow_20.out.step hb21)
          clear hb21 S20 Rnow_20 w20
          go_wp2_with fail
          obtain ⟨F22, hRm22, hFb22⟩ := S21.out.room
          refine (hold_calls w21 _ F22 g _ hRm22 (by simp)).mono ?_
          rintro e w22 ⟨rfl, rfl⟩
          clear hRm22 hFb22 F22
          go_wp2_with fail
          go_ret
          exact ⟨rfl, S21.out.below⟩
theorem walk (A0 : Option Addr) (c0 : Nat) (l0 : List Int) {w' : World} (hr0 : Kd.C (Kd.int .u8) w' A0 l0.length l0) (hc0 : l0.length ≤ c0) (hw : ∀ x ∈ l0, (Lit.int .u8 x).wf = true) (y : l0.length * 1 ≤ 140737488351232) (x : Int) (hx : (Lit.int .u64 x).wf = true) (w : World) (e : w' = w := by rfl) :
    Calls Try.prog 4 #[.slice A0 l0.length c0, .int .u64 x] w fun e w' => e = .returned (.bool true) ∧ Below w.heap.size w w' := by
  subst e
  have hx' : 0 ≤ x ∧ x ≤ 18446744073709551615 := by simpa [Lit.wf, IntKind.min, IntKind.max, IntKind.signed, IntKind.bits] using hx
  exact walk_ A0 c0 l0 x _ hr0 hc0 (bytes_wf hw) (by omega) hx'.1 (by omega)
end Go.Proofs.Ytipefhadafildaa.CodecUints
