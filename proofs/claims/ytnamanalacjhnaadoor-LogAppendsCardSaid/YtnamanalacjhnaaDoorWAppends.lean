/- The walk of LogAppends (this claim's own lemmas). -/
import Derived.Test.YtnamanalacjhnaaDoorLgW
import Derived.Test.YtnamanalacjhnaaDoorQApx3
namespace Go.Proofs.YtnamanalacjhnaaDoor.LogAppends
open Go.RowKit Go.Proofs.YtnamanalacjhnaaDoorW.PrintWords Go.Proofs.YtnamanalacjhnaaDoor.Own Go.Proofs.YtnamanalacjhnaaDoor.Room Go.Proofs.YtnamanalacjhnaaDoor.Wk Go.Proofs.YtnamanalacjhnaaDoor.G Go.Proofs.YtnamanalacjhnaaDoor.Lg Go.Proofs.YtnamanalacjhnaaDoor.QAp
set_option linter.unusedVariables false
theorem cSame {w : World} {A1 A2 : Option Addr} {n1 c1 n2 c2 : Nat} {l1 l2 : List Int} (h1 : Rd (Kd.int .u8) w A1 n1 c1 l1) (h2 : Rd (Kd.int .u8) w A2 n2 c2 l2) (he : l1 = l2) : Calls Tryd.prog 10 #[.slice A1 n1 c1, .slice A2 n2 c2] w (Says w true) := by
  obtain ⟨rfl, a2, a3⟩ := h1
  obtain ⟨rfl, b2, b3⟩ := h2
  exact (screelaw7_same.calls A1 c1 l1 A2 c2 l2 true w a3 a2 b3 b2 (by unfold screelaw7_same.f; rw [if_pos a3.2.1]; simp [he])).mono fun _ _ h => Says.of h
theorem cAppend {w : World} {A : Option Addr} {n c : Nat} {l : List Int} {a : Int} (h : Rd (Kd.int .u8) w A n c l) (hb : Bytes l) (hl : n ≤ 1073741824) (ha : a ≤ 9223372036854775807) (hT : GT w) : Calls Tryd.prog 11 #[.int .i64 a, .slice A n c] w (Made (Kd.int .u8) 5 w (appendL a l)) := by
  obtain ⟨rfl, a2, a3⟩ := h
  exact (log_Append.calls a A c l _ w a3 a2 (by unfold log_Append.f; rw [if_pos ⟨okB_iff.2 hb, hl, ha⟩]) hT).mono fun _ _ h => Made.of h
theorem cRefAppend {w : World} {A : Option Addr} {n c : Nat} {l : List Int} {a : Int} (h : Rd (Kd.int .u8) w A n c l) (hb : Bytes l) (hl : n ≤ 1073741824) (ha : a ≤ 9223372036854775807) : Calls Tryd.prog 12 #[.int .i64 a, .slice A n c] w (Made (Kd.int .u8) 5 w (appendL a l)) := by
  obtain ⟨rfl, a2, a3⟩ := h
  exact (screeref7_Append.calls a A c l _ w a3 a2 (by unfold screeref7_Append.f; rw [if_pos ⟨okB_iff.2 hb, hl, ha⟩])).mono fun _ _ h => Made.of h
set_option maxHeartbeats 2000000 in
set_option maxRecDepth 100000 in
theorem walk_ (a : Int) (A0 : Option Addr) (c0 : Nat) (l0 : List Int) (w : World) (hr0 : Rd (Kd.int .u8) w A0 l0.length c0 l0) (hl : Bytes l0) (hlen : l0.length ≤ 140737488351232) (ha1 : -9223372036854775808 ≤ a) (ha2 : a ≤ 9223372036854775807) (hT : GT w) :
    Calls Tryd.prog 3 #[.int .i64 a, .slice A0 l0.length c0] w fun e w' => e = .returned (.bool true) ∧ Below w.heap.size w w' := by
  by_cases hbig : l0.length > 65536
  · have d1 : decide ((65536 : Int) < (l0.length : Int)) = true := decide_eq_true (by omega)
    have d2 : decide (65536 < l0.length) = true := decide_eq_true (by omega)
    clear hr0 hl hT
    go_enter Tryd.func3, Tryd.ntmps3
    go_wp2_with fail
    go_ret
    exact ⟨rfl, Below.refl _ _⟩
  have d1 : decide ((65536 : Int) < (l0.length : Int)) = false := decide_eq_false (by omega)
  have d2 : decide (65536 < l0.length) = false := decide_eq_false (by omega)
  have HR0 := Aside0.mk hr0
  have HL := Aside0.mk hl
  have HT := Aside0.mk hT
  have HA2 := Aside0.mk ha2
  clear hr0 hl hT ha1 ha2
  go_enter Tryd.func3, Tryd.ntmps3
  go_wp2_with fail
  refine (bytes_first (Below.refl _ _) HR0.out.2.2 HR0.out.2.1 hlen).mono ?_
  rintro e w2 ⟨b, cap, rfl, hO⟩
  generalize w.heap.size = g at hO ⊢
  have S := Aside0.mk hO
  clear hO
  go_wp2_with fail
  refine (cAppend (S.out.rd (by omega)) HL.out (by omega) HA2.out (GT.below HT.out S.out.bel)).mono ?_
  rintro e w3 ⟨A3, n3, c3, r3, rfl, h3, hd3, -, hb3⟩
  have S3 := Aside0.mk (S.out.step hb3)
  have Ra_3 := Aside0.mk hd3
  have Ha := Aside0.mk h3
  clear h3 hd3 hb3 S w2
  go_wp2_with fail
  refine (cRefAppend (HR0.out.step S3.out.bel) HL.out (by omega) HA2.out).mono ?_
  rintro e w4 ⟨A4, n4, c4, r4, rfl, h4, hd4, -, hb4⟩
  have S4 := Aside0.mk (S3.out.step hb4)
  have Ra_4 := Aside0.mk (Ra_3.out.step hb4)
  have Rb_4 := Aside0.mk hd4
  have Hb := Aside0.mk h4
  clear h4 hd4 hb4 S3 Ra_3 w3
  go_wp2_with fail
  refine (cSame Ra_4.out Rb_4.out (by rw [Ha.out, Hb.out])).mono ?_
  rintro e w5 ⟨rfl, hb5⟩
  have S5 := Aside0.mk (S4.out.step hb5)
  have Ra_5 := Aside0.mk (Ra_4.out.step hb5)
  have Rb_5 := Aside0.mk (Rb_4.out.step hb5)
  clear hb5 S4 Ra_4 Rb_4 w4
  clear Ra_5 Rb_5 Ha Hb
  go_wp2_with fail
  refine (cSame (S5.out.rd (by omega)) (HR0.out.step S5.out.bel) rfl).mono ?_
  rintro e w6 ⟨rfl, hb6⟩
  have S6 := Aside0.mk (S5.out.step hb6)
  clear hb6 S5 w5
  go_wp2_with fail
  obtain ⟨F7, hRm7, hFb7⟩ := S6.out.room
  refine (hold_calls w6 _ F7 g _ hRm7 (by simp)).mono ?_
  rintro e w7 ⟨rfl, rfl⟩
  clear hRm7 hFb7 F7
  go_wp2_with fail
  go_ret
  exact ⟨rfl, S6.out.bel⟩
theorem walk (a : Int) (ha : (Lit.int .i64 a).wf = true) (A0 : Option Addr) (c0 : Nat) (l0 : List Int) {w' : World} (hr0 : Kd.C (Kd.int .u8) w' A0 l0.length l0) (hc0 : l0.length ≤ c0) (hw0 : ∀ x ∈ l0, (Lit.int .u8 x).wf = true) (y0 : l0.length * 1 ≤ 140737488351232) (w : World) (hT : GT w) (e : w' = w := by rfl) :
    Calls Tryd.prog 3 #[.int .i64 a, .slice A0 l0.length c0] w fun e w' => e = .returned (.bool true) ∧ Below w.heap.size w w' := by
  subst e
  have hx' : -9223372036854775808 ≤ a ∧ a ≤ 9223372036854775807 := by simpa [Lit.wf, IntKind.min, IntKind.max, IntKind.signed, IntKind.bits] using ha
  exact walk_ a A0 c0 l0 _ ⟨rfl, hc0, hr0⟩ (bytes_wf hw0) (by omega) hx'.1 hx'.2 hT
end Go.Proofs.YtnamanalacjhnaaDoor.LogAppends
