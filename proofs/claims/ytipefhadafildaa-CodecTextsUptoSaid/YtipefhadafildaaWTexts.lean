/- The walk of CodecTexts (this claim's own lemmas). -/
import Derived.Test.YtipefhadafildaaWrap
namespace Go.Proofs.Ytipefhadafildaa.CodecTexts
open Go.RowKit Go.Proofs.YtipefhadafildaaW.PrintWords Go.Proofs.Ytipefhadafildaa.Own Go.Proofs.Ytipefhadafildaa.Room Go.Proofs.Ytipefhadafildaa.Wrap
set_option linter.unusedVariables false
theorem u8_xor_range {x y : Int} (hx : 0 ≤ x ∧ x ≤ 255) (hy : 0 ≤ y ∧ y ≤ 255) : 0 ≤ bits .xor .u8 x y ∧ bits .xor .u8 x y ≤ 255 := by
  obtain ⟨a, rfl⟩ := Int.eq_ofNat_of_zero_le hx.1
  obtain ⟨b, rfl⟩ := Int.eq_ofNat_of_zero_le hy.1
  rw [u8_xor_nat a b (by omega) (by omega)]
  have := Nat.xor_lt_two_pow (x := a) (y := b) (n := 8) (by omega) (by omega)
  constructor <;> omega
theorem Bytes_set {l : List Int} (h : Bytes l) (k : Nat) {x : Int} (hx : 0 ≤ x ∧ x ≤ 255) : Bytes (l.set k x) := fun y hy => by
  rcases List.mem_or_eq_of_mem_set hy with h1 | rfl
  · exact h y h1
  · exact hx
theorem bytes_rd {l : List Int} (hl : Bytes l) (k : Nat) (h : k < l.length) : 0 ≤ rd l k ∧ rd l k ≤ 255 := by
  simp only [rd, Int.toNat_natCast, List.getD_eq_getElem?_getD, List.getElem?_eq_getElem h, Option.getD_some]
  exact hl _ (List.getElem_mem h)
set_option maxHeartbeats 2000000 in
set_option maxRecDepth 100000 in
theorem walk_ (A0 : Option Addr) (c0 : Nat) (l0 : List Int) (x : ByteArray) (m : Int) (w : World) (hr0 : Kd.C (Kd.int .u8) w A0 l0.length l0) (hc0 : l0.length ≤ c0) (hl : Bytes l0) (hl1 : l0.length ≤ 1048576) (hl2 : x.size ≤ 1048576) (hm1 : -9223372036854775808 ≤ m) (hm2 : m ≤ 9223372036854775807) :
    Calls Try.prog 5 #[.slice A0 l0.length c0, .string x, .int .i64 m] w fun e w' => e = .returned (.bool true) ∧ Below w.heap.size w w' := by
  have HR0 := Aside0.mk hr0
  have HL := Aside0.mk hl
  clear hr0 hl
  have hlen : l0.length ≤ 140737488351232 := by omega
  have up0 := Aside0.mk hl1
  have up1 := Aside0.mk hl2
  have HM1 := Aside0.mk hm1
  have HM2 := Aside0.mk hm2
  have H10 : Aside0 ((numL x.size ++ bytesOf x).length ≤ 1048590) := ⟨by have := numL_len10 (n := x.size) (by omega); have := QA.bytesOf_len x; simp only [List.length_append]; omega⟩
  clear hl2 hm1 hm2
  go_enter Try.func5, Try.ntmps5
  go_wp2_with fail
  refine (cBehind (l1 := l0) (l2 := []) ⟨rfl, hc0, HR0.out⟩ (Rd.nil _) (by omega)).mono ?_
  rintro e w1 ⟨Ak, nk, ck, lk, rfl, hlk, hrd, hR, hb1⟩
  obtain rfl : lk = l0 := by simpa using hlk
  obtain ⟨rfl, hck, -⟩ := hrd
  have HK := Aside0.mk hR
  have HB := Aside0.mk hb1
  clear hlk hR hb1
  go_wp2_with fail
  refine (bytes_new HB.out HR0.out hc0 hlen HK.out).mono ?_
  rintro e w2 ⟨b, cap, rfl, hS⟩
  generalize w1.heap.size = g at hS ⊢
  have S := Aside0.mk hS
  clear hS HB HK w1
  go_wp2_with fail
  refine (cPutText (Rd.lent S.out) (by have := up0.out; have := up1.out; omega)).mono ?_
  rintro e w3 ⟨A3, n3, c3, r3, rfl, h3, hd3, -, hb3⟩
  have S3 := Aside0.mk (S.out.step hb3)
  have Ra_3 := Aside0.mk hd3
  have Ha := Aside0.mk h3
  clear h3 hd3 hb3 S w2
  go_wp2_with fail
  refine (cWords (by have := up1.out; omega)).mono ?_
  rintro e w4 ⟨A4, n4, c4, r4, rfl, h4, hd4, -, hb4⟩
  have S4 := Aside0.mk (S3.out.step hb4)
  have Ra_4 := Aside0.mk (Ra_3.out.step hb4)
  have Rb_4 := Aside0.mk hd4
  have Hb := Aside0.mk h4
  clear h4 hd4 hb4 S3 Ra_3 w3
  go_wp2_with fail
  refine (cBehind (Rd.kept S4.out rfl) Rb_4.out (by have h1 := Rb_4.out.1; have h2 := H10.out; rw [Hb.out] at h1; omega)).mono ?_
  rintro e w5 ⟨A5, n5, c5, r5, rfl, h5, hd5, -, hb5⟩
  have S5 := Aside0.mk (S4.out.step hb5)
  have Ra_5 := Aside0.mk (Ra_4.out.step hb5)
  have Rb_5 := Aside0.mk (Rb_4.out.step hb5)
  have Rc_5 := Aside0.mk hd5
  have Hc := Aside0.mk h5
  clear h5 hd5 hb5 S4 Ra_4 Rb_4 w4
  go_wp2_with fail
  refine (cSame Ra_5.out Rc_5.out (by rw [Ha.out, Hc.out, Hb.out])).mono ?_
  rintro e w6 ⟨rfl, hb6⟩
  have S6 := Aside0.mk (S5.out.step hb6)
  have Ra_6 := Aside0.mk (Ra_5.out.step hb6)
  have Rb_6 := Aside0.mk (Rb_5.out.step hb6)
  have Rc_6 := Aside0.mk (Rc_5.out.step hb6)
  clear hb6 S5 Ra_5 Rb_5 Rc_5 w5
  clear Ra_6 Rb_6 Rc_6 Ha Hb Hc
  go_wp2_with fail
  refine (cPutText (Rd.nil _) (by have := up1.out; omega)).mono ?_
  rintro e w7 ⟨A7, n7, c7, r7, rfl, h7, hd7, -, hb7⟩
  have S7 := Aside0.mk (S6.out.step hb7)
  have Ra_7 := Aside0.mk hd7
  have Ha := Aside0.mk h7
  clear h7 hd7 hb7 S6 w6
  go_wp2_with fail
  refine (cWords (by have := up1.out; omega)).mono ?_
  rintro e w8 ⟨A8, n8, c8, r8, rfl, h8, hd8, -, hb8⟩
  have S8 := Aside0.mk (S7.out.step hb8)
  have Ra_8 := Aside0.mk (Ra_7.out.step hb8)
  have Rb_8 := Aside0.mk hd8
  have Hb := Aside0.mk h8
  clear h8 hd8 hb8 S7 Ra_7 w7
  go_wp2_with fail
  refine (cSame Ra_8.out Rb_8.out (by rw [Ha.out, Hb.out]; rfl)).mono ?_
  rintro e w9 ⟨rfl, hb9⟩
  have S9 := Aside0.mk (S8.out.step hb9)
  have Ra_9 := Aside0.mk (Ra_8.out.step hb9)
  have Rb_9 := Aside0.mk (Rb_8.out.step hb9)
  clear hb9 S8 Ra_8 Rb_8 w8
  clear Ra_9 Rb_9 Ha Hb
  go_wp2_with fail
  go_loopw [10] (fun i wr => ∃ k : Nat, k ≤ 3 ∧ i = .int .i64 k ∧ Aside0 (Sit w wr g b lk.length cap lk Ak ck lk)) (fun i _ => 3 - (intOf i).toNat)
  case atStart => exact ⟨0, by omega, rfl, S9⟩
  case round =>
    clear S9
    obtain ⟨k, hk, rfl, S⟩ := hrel
    by_cases hlt : k < 3
    · skip
      obtain ⟨wq, rfl⟩ : ∃ wq : World, wq = wr := ⟨_, rfl⟩
      go_wp2_with fail
      refine (cTextOf (Rd.lent S.out) (Rd.kept S.out rfl) (by omega) HL.out (by rfl) (by have := HM1.out; omega) (by have := HM2.out; omega)).mono ?_
      rintro e w10 ⟨rfl, hb10⟩
      have S10 := Aside0.mk (S.out.step hb10)
      clear hb10 S wq
      go_wp2_with fail
      refine (cTextOf (Rd.lent S10.out) (Rd.kept S10.out rfl) (by omega) HL.out (by rfl) (by unfold wrap64; omega) (by unfold wrap64; omega)).mono ?_
      rintro e w11 ⟨rfl, hb11⟩
      have S11 := Aside0.mk (S10.out.step hb11)
      clear hb11 S10 w10
      go_wp2_with fail
      exact ⟨⟨k + 1, by omega, by go_num, S11⟩, by simp [intOf]; omega⟩
    · skip
      go_wp2_with fail
      refine (cSame (Rd.lent S.out) (Rd.kept S.out rfl) rfl).mono ?_
      rintro e w12 ⟨rfl, hb12⟩
      have S12 := Aside0.mk (S.out.step hb12)
      clear hb12 S wr
      go_wp2_with fail
      obtain ⟨F13, hRm13, hFb13⟩ := S12.out.room
      refine (hold_calls w12 _ F13 g _ hRm13 (by simp)).mono ?_
      rintro e w13 ⟨rfl, rfl⟩
      clear hRm13 hFb13 F13
      go_wp2_with fail
      go_loopw [11] (fun i wr => ∃ (k : Nat) (l : List Int), 1 ≤ k ∧ k ≤ max lk.length 1 ∧ i = .int .i64 k ∧ Aside0 (Bytes l) ∧ Aside0 (Sit w wr g b lk.length cap l Ak ck lk)) (fun i _ => lk.length - (intOf i).toNat)
      case atStart => exact ⟨1, lk, Nat.le_refl _, by omega, rfl, HL, S12⟩
      case round =>
        clear S12
        obtain ⟨k, l, hk1, hk, rfl, HBY, S⟩ := hrel
        by_cases hlt : k < lk.length
        · skip
          have hcell := S.out.row.cell k (by rw [S.out.len]; exact hlt)
          have hfz := S.out.row.frozen k
          have hb1 := bytes_rd HBY.out k (by rw [S.out.len]; exact hlt)
          go_wp2_with fail
          exact ⟨⟨k + 1, l.set k ((rd l k + 1) % 256), by omega, by omega, by go_num, ⟨Bytes_set HBY.out k (by omega)⟩, ⟨S.out.set k (by rw [S.out.len]; exact hlt) _⟩⟩, by simp [intOf]; omega⟩
        · skip
          have hll : Aside0 (l.length = lk.length) := ⟨S.out.len⟩
          go_wp2_with fail
          refine (cBehind (l1 := l) (l2 := []) (Rd.lent S.out) (Rd.nil _) (by omega)).mono ?_
          rintro e w14 ⟨A14, n14, c14, r14, rfl, h14, hd14, -, hb14⟩
          have S14 := Aside0.mk (S.out.step hb14)
          have Rnow_14 := Aside0.mk hd14
          have Hnow := Aside0.mk h14
          clear h14 hd14 hb14 S wr
          have HN : Aside0 (r14 = l) := ⟨by rw [Hnow.out]; simp⟩
          go_wp2_with fail
          refine (cTextOf (Rd.lent S14.out) Rnow_14.out (by omega) HBY.out (by rw [HN.out]) (by have := HM1.out; omega) (by have := HM2.out; omega)).mono ?_
          rintro e w15 ⟨rfl, hb15⟩
          have S15 := Aside0.mk (S14.out.step hb15)
          have Rnow_15 := Aside0.mk (Rnow_14.out.step hb15)
          clear hb15 S14 Rnow_14 w14
          go_wp2_with fail
          refine (cBehind (l1 := lk) (l2 := []) (Rd.kept S15.out rfl) (Rd.nil _) (by omega)).mono ?_
          rintro e w16 ⟨A16, n16, c16, r16, rfl, h16, hd16, -, hb16⟩
          have S16 := Aside0.mk (S15.out.step hb16)
          have Rnow_16 := Aside0.mk (Rnow_15.out.step hb16)
          have Rkk_16 := Aside0.mk hd16
          have Hkk := Aside0.mk h16
          clear h16 hd16 hb16 S15 Rnow_15 w15
          go_wp2_with fail
          refine (cTextOf (Rd.kept S16.out rfl) Rkk_16.out (by omega) HL.out (by rw [Hkk.out]; simp) (by have := HM1.out; omega) (by have := HM2.out; omega)).mono ?_
          rintro e w17 ⟨rfl, hb17⟩
          have S17 := Aside0.mk (S16.out.step hb17)
          have Rnow_17 := Aside0.mk (Rnow_16.out.step hb17)
          have Rkk_17 := Aside0.mk (Rkk_16.out.step hb17)
          clear hb17 S16 Rnow_16 Rkk_16 w16
          clear Rkk_17 Hkk
          go_wp2_with fail
          refine (cPutText (Rd.lent S17.out) (by have := up0.out; have := up1.out; omega)).mono ?_
          rintro e w18 ⟨A18, n18, c18, r18, rfl, h18, hd18, -, hb18⟩
          have S18 := Aside0.mk (S17.out.step hb18)
          have Rnow_18 := Aside0.mk (Rnow_17.out.step hb18)
          have Ra_18 := Aside0.mk hd18
          have Ha := Aside0.mk h18
          clear h18 hd18 hb18 S17 Rnow_17 w17
          go_wp2_with fail
          refine (cWords (by have := up1.out; omega)).mono ?_
          rintro e w19 ⟨A19, n19, c19, r19, rfl, h19, hd19, -, hb19⟩
          have S19 := Aside0.mk (S18.out.step hb19)
          have Rnow_19 := Aside0.mk (Rnow_18.out.step hb19)
          have Ra_19 := Aside0.mk (Ra_18.out.step hb19)
          have Rb_19 := Aside0.mk hd19
          have Hb := Aside0.mk h19
          clear h19 hd19 hb19 S18 Rnow_18 Ra_18 w18
          go_wp2_with fail
          refine (cBehind Rnow_19.out Rb_19.out (by have h1 := Rnow_19.out.1; rw [HN.out, hll.out] at h1; have h3 := H10.out; have h4 := Rb_19.out.1; rw [Hb.out] at h4; omega)).mono ?_
          rintro e w20 ⟨A20, n20, c20, r20, rfl, h20, hd20, -, hb20⟩
          have S20 := Aside0.mk (S19.out.step hb20)
          have Rnow_20 := Aside0.mk (Rnow_19.out.step hb20)
          have Ra_20 := Aside0.mk (Ra_19.out.step hb20)
          have Rb_20 := Aside0.mk (Rb_19.out.step hb20)
          have Rc_20 := Aside0.mk hd20
          have Hc := Aside0.mk h20
          clear h20 hd20 hb20 S19 Rnow_19 Ra_19 Rb_19 w19
          go_wp2_with fail
          refine (cSame Ra_20.out Rc_20.out (by rw [Ha.out, Hc.out, Hb.out, HN.out])).mono ?_
          rintro e w21 ⟨rfl, hb21⟩
          have S21 := Aside0.mk (S20.out.step hb21)
          have Rnow_21 := Aside0.mk (Rnow_20.out.step hb21)
          have Ra_21 := Aside0.mk (Ra_20.out.step hb21)
          have Rb_21 := Aside0.mk (Rb_20.out.step hb21)
          have Rc_21 := Aside0.mk (Rc_20.out.step hb21)
          clear hb21 S20 Rnow_20 Ra_20 Rb_20 Rc_20 w20
          clear Ra_21 Rb_21 Rc_21 Ha Hb Hc
          go_wp2_with fail
          refine (cSame (Rd.lent S21.out) Rnow_21.out (by rw [HN.out])).mono ?_
          rintro e w22 ⟨rfl, hb22⟩
          have S22 := Aside0.mk (S21.out.step hb22)
          have Rnow_22 := Aside0.mk (Rnow_21.out.step hb22)
          clear hb22 S21 Rnow_21 w21
          go_wp2_with fail
          obtain ⟨F23, hRm23, hFb23⟩ := S22.out.room
          refine (hold_calls w22 _ F23 g _ hRm23 (by simp)).mono ?_
          rintro e w23 ⟨rfl, rfl⟩
          clear hRm23 hFb23 F23
          go_wp2_with fail
          go_ret
          exact ⟨rfl, S22.out.below⟩
theorem walk (A0 : Option Addr) (c0 : Nat) (l0 : List Int) {w' : World} (hr0 : Kd.C (Kd.int .u8) w' A0 l0.length l0) (hc0 : l0.length ≤ c0) (hw : ∀ x ∈ l0, (Lit.int .u8 x).wf = true) (y : l0.length * 1 ≤ 140737488351232) (up : l0.length ≤ 1048576) (x : ByteArray) (y1 : x.size ≤ 140737488351232) (up1 : x.size ≤ 1048576) (m : Int) (hm : (Lit.int .i64 m).wf = true) (w : World) (e : w' = w := by rfl) :
    Calls Try.prog 5 #[.slice A0 l0.length c0, .string x, .int .i64 m] w fun e w' => e = .returned (.bool true) ∧ Below w.heap.size w w' := by
  subst e
  have hx : -9223372036854775808 ≤ m ∧ m ≤ 9223372036854775807 := by simpa [Lit.wf, IntKind.min, IntKind.max, IntKind.signed, IntKind.bits] using hm
  exact walk_ A0 c0 l0 x m _ hr0 hc0 (bytes_wf hw) up up1 hx.1 hx.2
end Go.Proofs.Ytipefhadafildaa.CodecTexts
