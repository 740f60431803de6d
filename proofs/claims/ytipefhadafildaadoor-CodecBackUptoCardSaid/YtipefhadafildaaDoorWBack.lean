/- The walk of CodecBack (this claim's own lemmas). -/
import Derived.Test.YtipefhadafildaaDoorWrapB
namespace Go.Proofs.YtipefhadafildaaDoor.CodecBack
open Go.RowKit Go.Proofs.YtipefhadafildaaDoorW.PrintWords Go.Proofs.YtipefhadafildaaDoor.Own Go.Proofs.YtipefhadafildaaDoor.WrapB Go.Proofs.YtipefhadafildaaDoor.G
set_option linter.unusedVariables false
theorem bytes_str (s : ByteArray) : Bytes (bytesOf s) := fun y hy => by
  simp only [bytesOf, List.mem_map] at hy
  obtain ⟨b, _, rfl⟩ := hy
  have := b.toNat_lt
  constructor <;> omega
theorem bytes_frame {l : List Int} (hl : Bytes l) : Bytes (frameL l) := bytes_app (bytes_app (numL_bytes _) hl) (bytes_four (sumF_range (bytes_app (numL_bytes _) hl)))
theorem frame_len (l : List Int) (hl : l.length ≤ 262144) : (frameL l).length ≤ 262158 := by
  have := numL_len10 (n := l.length) (by omega)
  unfold frameL
  simp only [List.length_append, four_len]
  omega
set_option maxHeartbeats 2000000 in
set_option maxRecDepth 100000 in
theorem walk_ (x : Nat) (s : ByteArray) (A0 : Option Addr) (c0 : Nat) (l0 : List Int) (A1 : Option Addr) (c1 : Nat) (l1 : List Int) (w : World) (hr0 : Rd w A0 l0.length c0 l0) (hr1 : Rd w A1 l1.length c1 l1) (hl0 : Bytes l0) (hl1 : Bytes l1) (hb0 : l0.length ≤ 1048576) (hb1 : l1.length ≤ 1048576) (hs : s.size ≤ 1048576) (hx1 : x < 18446744073709551616) (hT : GT w) :
    Calls Tryd.prog 6 #[.int .u64 (x : Int), .string s, .slice A0 l0.length c0, .slice A1 l1.length c1] w fun e w' => e = .returned (.bool true) ∧ Below w.heap.size w w' := by
  have HR0 := Aside0.mk hr0
  have HR1 := Aside0.mk hr1
  have HL0 := Aside0.mk hl0
  have HL1 := Aside0.mk hl1
  have HT : Aside0 (Tab w) := ⟨hT⟩
  have HX1 := Aside0.mk hx1
  have HB : Aside0 (Bel w w) := ⟨Below.refl _ _⟩
  have H10 := Aside0.mk (numL_len10 (n := x) (by omega))
  have H11 : Aside0 ((numL s.size ++ bytesOf s).length ≤ 1048590) := ⟨by have := numL_len10 (n := s.size) (by omega); have := bytesOf_length s; simp only [List.length_append]; omega⟩
  clear hr0 hr1 hl0 hl1 hT hx1
  go_enter Tryd.func6, Tryd.ntmps6
  go_wp2_with fail
  refine (cKnown HT.out).mono ?_
  rintro e w3 ⟨rfl, hb3⟩
  have RT_3 := Aside0.mk (HT.out.step hb3)
  have RB_3 := Aside0.mk (HB.out.step hb3)
  have Rbody_3 := Aside0.mk (HR0.out.step hb3)
  have Rmore_3 := Aside0.mk (HR1.out.step hb3)
  clear hb3 HT HB HR0 HR1 
  go_wp2_with fail
  refine (cPart Rbody_3.out (by omega)).mono ?_
  rintro e w4 ⟨m, rfl, hm, hmn, hp, -, hb4⟩
  have RT_4 := Aside0.mk (RT_3.out.step hb4)
  have RB_4 := Aside0.mk (RB_3.out.step hb4)
  have Rbody_4 := Aside0.mk (Rbody_3.out.step hb4)
  have Rmore_4 := Aside0.mk (Rmore_3.out.step hb4)
  have Rpt_4 := Aside0.mk hp
  obtain ⟨lb, hlb⟩ : ∃ lb, lb = l0.take m := ⟨_, rfl⟩
  have Rpart_4 := Aside0.mk (show Rd w4 A0 m c0 lb by rw [hlb]; exact hp)
  have HLB : Aside0 (Bytes lb) := ⟨fun y hy => HL0.out y (List.mem_of_mem_take (by rw [← hlb]; exact hy))⟩
  clear hp hb4 Rpt_4 hlb Rbody_4 RT_3 RB_3 Rbody_3 Rmore_3
  go_wp2_with fail
  refine (cPutNat (Rd.nil _) (by omega) HX1.out).mono ?_
  rintro e w5 ⟨A5, n5, c5, r5, rfl, h5, hd5, -, hb5⟩
  have RT_5 := Aside0.mk (RT_4.out.step hb5)
  have RB_5 := Aside0.mk (RB_4.out.step hb5)
  have Rmore_5 := Aside0.mk (Rmore_4.out.step hb5)
  have Rpart_5 := Aside0.mk (Rpart_4.out.step hb5)
  have Ra_5 := Aside0.mk hd5
  have Ha := Aside0.mk h5
  clear h5 hd5 hb5 RT_4 RB_4 Rmore_4 Rpart_4 w4
  have hna := Ra_5.out.1
  rw [Ha.out, List.nil_append] at hna
  have HNA := Aside0.mk hna
  clear hna
  go_wp2_with fail
  refine (cBehind Ra_5.out Rmore_5.out (by have := HNA.out; have := H10.out; omega)).mono ?_
  rintro e w6 ⟨A6, n6, c6, r6, rfl, h6, hd6, -, hb6⟩
  have RT_6 := Aside0.mk (RT_5.out.step hb6)
  have RB_6 := Aside0.mk (RB_5.out.step hb6)
  have Rmore_6 := Aside0.mk (Rmore_5.out.step hb6)
  have Rpart_6 := Aside0.mk (Rpart_5.out.step hb6)
  have Ra_6 := Aside0.mk (Ra_5.out.step hb6)
  have Ram_6 := Aside0.mk hd6
  have Ham := Aside0.mk h6
  clear h6 hd6 hb6 RT_5 RB_5 Rmore_5 Rpart_5 Ra_5 w5
  go_wp2_with fail
  refine (cUint (a := x) (b := n5) (e := 0) Ram_6.out (by have h1 := Ram_6.out.1; rw [Ham.out, List.length_append, Ha.out, List.nil_append] at h1; have := H10.out; omega) (by rw [Ham.out, Ha.out]; exact bytes_app (bytes_app (by simp [Bytes]) (numL_bytes _)) HL1.out) (by rw [Ham.out, Ha.out, List.nil_append, uintN_numL _ _ HX1.out, ← HNA.out])).mono ?_
  rintro e w7 ⟨rfl, hb7⟩
  have RT_7 := Aside0.mk (RT_6.out.step hb7)
  have RB_7 := Aside0.mk (RB_6.out.step hb7)
  have Rmore_7 := Aside0.mk (Rmore_6.out.step hb7)
  have Rpart_7 := Aside0.mk (Rpart_6.out.step hb7)
  have Ra_7 := Aside0.mk (Ra_6.out.step hb7)
  have Ram_7 := Aside0.mk (Ram_6.out.step hb7)
  clear hb7 RT_6 RB_6 Rmore_6 Rpart_6 Ra_6 Ram_6 w6
  clear Ram_7 Ham
  go_wp2_with fail
  refine (cPutText (Rd.nil _) (by omega)).mono ?_
  rintro e w8 ⟨A8, n8, c8, r8, rfl, h8, hd8, -, hb8⟩
  have RT_8 := Aside0.mk (RT_7.out.step hb8)
  have RB_8 := Aside0.mk (RB_7.out.step hb8)
  have Rmore_8 := Aside0.mk (Rmore_7.out.step hb8)
  have Rpart_8 := Aside0.mk (Rpart_7.out.step hb8)
  have Ra_8 := Aside0.mk (Ra_7.out.step hb8)
  have Rb_8 := Aside0.mk hd8
  have Hb := Aside0.mk h8
  clear h8 hd8 hb8 RT_7 RB_7 Rmore_7 Rpart_7 Ra_7 w7
  have hnb := Rb_8.out.1
  rw [Hb.out, List.nil_append] at hnb
  have HNB := Aside0.mk hnb
  clear hnb
  go_wp2_with fail
  refine (cBehind Rb_8.out Rmore_8.out (by have := HNB.out; have := H11.out; omega)).mono ?_
  rintro e w9 ⟨A9, n9, c9, r9, rfl, h9, hd9, -, hb9⟩
  have RT_9 := Aside0.mk (RT_8.out.step hb9)
  have RB_9 := Aside0.mk (RB_8.out.step hb9)
  have Rmore_9 := Aside0.mk (Rmore_8.out.step hb9)
  have Rpart_9 := Aside0.mk (Rpart_8.out.step hb9)
  have Ra_9 := Aside0.mk (Ra_8.out.step hb9)
  have Rb_9 := Aside0.mk (Rb_8.out.step hb9)
  have Rbm_9 := Aside0.mk hd9
  have Hbm := Aside0.mk h9
  clear h9 hd9 hb9 RT_8 RB_8 Rmore_8 Rpart_8 Ra_8 Rb_8 w8
  go_wp2_with fail
  refine (cText (m := (s.size : Int)) (k := (n8 : Int)) (e := 0) (s := s) Rbm_9.out (by have h1 := Rbm_9.out.1; rw [Hbm.out, List.length_append, Hb.out, List.nil_append] at h1; have := H11.out; omega) (by rw [Hbm.out, Hb.out]; exact bytes_app (bytes_app (by simp [Bytes]) (bytes_app (numL_bytes _) (bytes_str _))) HL1.out) (by omega) (by omega) (by rw [Hbm.out, Hb.out, List.nil_append, textL_words _ _ (by omega), ← HNB.out])).mono ?_
  rintro e w10 ⟨rfl, hb10⟩
  have RT_10 := Aside0.mk (RT_9.out.step hb10)
  have RB_10 := Aside0.mk (RB_9.out.step hb10)
  have Rmore_10 := Aside0.mk (Rmore_9.out.step hb10)
  have Rpart_10 := Aside0.mk (Rpart_9.out.step hb10)
  have Ra_10 := Aside0.mk (Ra_9.out.step hb10)
  have Rb_10 := Aside0.mk (Rb_9.out.step hb10)
  have Rbm_10 := Aside0.mk (Rbm_9.out.step hb10)
  clear hb10 RT_9 RB_9 Rmore_9 Rpart_9 Ra_9 Rb_9 Rbm_9 w9
  clear Rbm_10 Hbm
  go_wp2_with fail
  refine (cFrame Rpart_10.out (by omega) HLB.out RT_10.out).mono ?_
  rintro e w11 ⟨A11, n11, c11, r11, rfl, h11, hd11, -, hb11⟩
  have RT_11 := Aside0.mk (RT_10.out.step hb11)
  have RB_11 := Aside0.mk (RB_10.out.step hb11)
  have Rmore_11 := Aside0.mk (Rmore_10.out.step hb11)
  have Rpart_11 := Aside0.mk (Rpart_10.out.step hb11)
  have Ra_11 := Aside0.mk (Ra_10.out.step hb11)
  have Rb_11 := Aside0.mk (Rb_10.out.step hb11)
  have Rc_11 := Aside0.mk hd11
  have Hc := Aside0.mk h11
  clear h11 hd11 hb11 RT_10 RB_10 Rmore_10 Rpart_10 Ra_10 Rb_10 w10
  have hlbm : lb.length = m := Rpart_11.out.1
  have hnc := Rc_11.out.1
  rw [Hc.out] at hnc
  have hfl := frame_len lb (by omega)
  have HNC := Aside0.mk hnc
  have HFL := Aside0.mk hfl
  have HLM := Aside0.mk hlbm
  clear hnc hfl hlbm
  go_wp2_with fail
  refine (cBehind Rc_11.out Rmore_11.out (by have := HNC.out; have := HFL.out; omega)).mono ?_
  rintro e w12 ⟨A12, n12, c12, r12, rfl, h12, hd12, -, hb12⟩
  have RT_12 := Aside0.mk (RT_11.out.step hb12)
  have RB_12 := Aside0.mk (RB_11.out.step hb12)
  have Rmore_12 := Aside0.mk (Rmore_11.out.step hb12)
  have Rpart_12 := Aside0.mk (Rpart_11.out.step hb12)
  have Ra_12 := Aside0.mk (Ra_11.out.step hb12)
  have Rb_12 := Aside0.mk (Rb_11.out.step hb12)
  have Rc_12 := Aside0.mk (Rc_11.out.step hb12)
  have Rcm_12 := Aside0.mk hd12
  have Hcm := Aside0.mk h12
  clear h12 hd12 hb12 RT_11 RB_11 Rmore_11 Rpart_11 Ra_11 Rb_11 Rc_11 w11
  go_wp2_with fail
  refine (cUnframe (x := lb) (k := (n11 : Int)) (e := 0) Rcm_12.out (by have h1 := Rcm_12.out.1; rw [Hcm.out, List.length_append, Hc.out] at h1; have := HFL.out; omega) (by rw [Hcm.out, Hc.out]; exact bytes_app (bytes_frame HLB.out) HL1.out) RT_12.out (by rw [Hcm.out, Hc.out, unframeL_frame _ _ (by have := HLM.out; omega), ← HNC.out])).mono ?_
  rintro e w13 ⟨A13, n13, c13, r13, rfl, h13, hd13, hb13⟩
  have RT_13 := Aside0.mk (RT_12.out.step hb13)
  have RB_13 := Aside0.mk (RB_12.out.step hb13)
  have Rmore_13 := Aside0.mk (Rmore_12.out.step hb13)
  have Rpart_13 := Aside0.mk (Rpart_12.out.step hb13)
  have Ra_13 := Aside0.mk (Ra_12.out.step hb13)
  have Rb_13 := Aside0.mk (Rb_12.out.step hb13)
  have Rc_13 := Aside0.mk (Rc_12.out.step hb13)
  have Rcm_13 := Aside0.mk (Rcm_12.out.step hb13)
  have Ry_13 := Aside0.mk hd13
  have Hy := Aside0.mk h13
  clear h13 hd13 hb13 RT_12 RB_12 Rmore_12 Rpart_12 Ra_12 Rb_12 Rc_12 Rcm_12 w12
  clear Rcm_13 Hcm
  go_wp2_with fail
  refine (cSame Ry_13.out Rpart_13.out Hy.out).mono ?_
  rintro e w14 ⟨rfl, hb14⟩
  have RT_14 := Aside0.mk (RT_13.out.step hb14)
  have RB_14 := Aside0.mk (RB_13.out.step hb14)
  have Rmore_14 := Aside0.mk (Rmore_13.out.step hb14)
  have Rpart_14 := Aside0.mk (Rpart_13.out.step hb14)
  have Ra_14 := Aside0.mk (Ra_13.out.step hb14)
  have Rb_14 := Aside0.mk (Rb_13.out.step hb14)
  have Rc_14 := Aside0.mk (Rc_13.out.step hb14)
  have Ry_14 := Aside0.mk (Ry_13.out.step hb14)
  clear hb14 RT_13 RB_13 Rmore_13 Rpart_13 Ra_13 Rb_13 Rc_13 Ry_13 w13
  go_wp2_with fail
  go_ret
  exact ⟨rfl, RB_14.out⟩
theorem walk (x : Int) (hx : (Lit.int .u64 x).wf = true) (s : ByteArray) (y1 : s.size ≤ 140737488351232) (up1 : s.size ≤ 1048576) (A0 : Option Addr) (c0 : Nat) (l0 : List Int) {w' : World} (hr0 : Kd.C (Kd.int .u8) w' A0 l0.length l0) (hc0 : l0.length ≤ c0) (hw0 : ∀ x ∈ l0, (Lit.int .u8 x).wf = true) (y0 : l0.length * 1 ≤ 140737488351232) (up0 : l0.length ≤ 1048576) (A1 : Option Addr) (c1 : Nat) (l1 : List Int) {w'' : World} (hr1 : Kd.C (Kd.int .u8) w'' A1 l1.length l1) (hc1 : l1.length ≤ c1) (hw1 : ∀ x ∈ l1, (Lit.int .u8 x).wf = true) (y2 : l1.length * 1 ≤ 140737488351232) (up2 : l1.length ≤ 1048576) (w : World) (hT : GT w) (e : w' = w := by rfl) (e2 : w'' = w := by rfl) :
    Calls Tryd.prog 6 #[.int .u64 x, .string s, .slice A0 l0.length c0, .slice A1 l1.length c1] w fun e w' => e = .returned (.bool true) ∧ Below w.heap.size w w' := by
  subst e e2
  have hx' : 0 ≤ x ∧ x ≤ 18446744073709551615 := by simpa [Lit.wf, IntKind.min, IntKind.max, IntKind.signed, IntKind.bits] using hx
  obtain ⟨X, rfl⟩ := Int.eq_ofNat_of_zero_le hx'.1
  exact walk_ X s A0 c0 l0 A1 c1 l1 _ ⟨rfl, hc0, hr0⟩ ⟨rfl, hc1, hr1⟩ (bytes_wf hw0) (bytes_wf hw1) up0 up2 up1 (by omega) hT
end Go.Proofs.YtipefhadafildaaDoor.CodecBack
