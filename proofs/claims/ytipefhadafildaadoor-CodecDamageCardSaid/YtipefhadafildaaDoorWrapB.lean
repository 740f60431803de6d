/- The codec's functions as the laws' walks take them (this claim's own lemmas). -/
import Derived.Test.YtipefhadafildaaDoorLawF
import Derived.Test.YtipefhadafildaaDoorQBackx2
namespace Go.Proofs.YtipefhadafildaaDoor.WrapB
open Go.RowKit Go.Proofs.YtipefhadafildaaDoorW.PrintWords Go.Proofs.YtipefhadafildaaDoor.Own Go.Proofs.YtipefhadafildaaDoor.G Go.Proofs.YtipefhadafildaaDoor.QBack
set_option linter.unusedVariables false
/-- A list of bytes that is read at A, n long, with room for c. -/
def Rd (w : World) (A : Option Addr) (n c : Nat) (l : List Int) : Prop := l.length = n ∧ n ≤ c ∧ Kd.C (Kd.int .u8) w A n l
theorem Rd.step {w w' : World} {A : Option Addr} {n c : Nat} {l : List Int} (h : Rd w A n c l) (hb : Below w.heap.size w w') : Rd w' A n c l := ⟨h.1, h.2.1, Kd.C_below h.2.2 hb⟩
theorem Rd.nil (w : World) : Rd w none 0 0 [] := ⟨rfl, Nat.le_refl _, Kd.C_of_reads (enc := Value.int .u8) (d := (0 : Int)) (h1 := fun _ => rfl) ⟨rfl, by simp, fun h => by simp at h⟩⟩
theorem Rd.of_R {w : World} {base : Nat} {v : Value} {l : List Int} (h : Kd.R (Kd.int .u8) 5 w base (fun _ => True) v l) : ∃ A n c, v = .slice A n c ∧ Rd w A n c l ∧ Kd.R (Kd.int .u8) 5 w base (fun _ => True) (.slice A n c) l := by
  obtain ⟨A, c, rfl, h1, h2⟩ := Kd.R_reads h
  exact ⟨A, l.length, c, rfl, ⟨rfl, h1, h2⟩, h⟩
/-- What a call that makes a list answers: the list, told apart; older memory stays. -/
def Made (w : World) (spec : List Int) (e : Ending) (w' : World) : Prop := ∃ A n c l, e = .returned (.slice A n c) ∧ l = spec ∧ Rd w' A n c l ∧ Kd.R (Kd.int .u8) 5 w' w.heap.size (fun _ => True) (.slice A n c) l ∧ Below w.heap.size w w'
theorem Made.of {w : World} {spec : List Int} {e : Ending} {w' : World} (h : ∃ v0_ : Value, e = .returned (v0_) ∧ Kd.R (Kd.int .u8) 5 w' w.heap.size (fun _ => True) v0_ spec ∧ Below w.heap.size w w') : Made w spec e w' := by
  obtain ⟨v, rfl, h1, h2⟩ := h
  obtain ⟨A, n, c, rfl, h3, h4⟩ := Rd.of_R h1
  exact ⟨A, n, c, spec, rfl, rfl, h3, h4, h2⟩
def Says (w : World) (b : Bool) (e : Ending) (w' : World) : Prop := e = .returned (.bool b) ∧ Below w.heap.size w w'
theorem Says.of {w : World} {b : Bool} {e : Ending} {w' : World} (h : e = .returned (.bool b) ∧ Drawn0 w w') : Says w b e w' := ⟨h.1, h.2.below⟩

def Tab (w : World) : Prop := GT w
theorem Tab.step {w w' : World} (h : Tab w) (hb : Below w.heap.size w w') : Tab w' := GT.below h hb
/-- Older memory stays, from the law's begin on. -/
def Bel (w W : World) : Prop := Below w.heap.size w W
theorem Bel.step {w W W' : World} (h : Bel w W) (hb : Below W.heap.size W W') : Bel w W' := below_step h hb
theorem cBehind {w : World} {A1 A2 : Option Addr} {n1 c1 n2 c2 : Nat} {l1 l2 : List Int} (h1 : Rd w A1 n1 c1 l1) (h2 : Rd w A2 n2 c2 l2) (hl : n1 + n2 < 140737488355328) : Calls Tryd.prog 8 #[.slice A1 n1 c1, .slice A2 n2 c2] w (Made w (l1 ++ l2)) := by
  obtain ⟨rfl, a2, a3⟩ := h1
  obtain ⟨rfl, b2, b3⟩ := h2
  exact (screelaw2_behind.calls A1 c1 l1 A2 c2 l2 (l1 ++ l2) w a3 a2 b3 b2 (by unfold screelaw2_behind.f; rw [if_pos hl])).mono fun _ _ h => Made.of h
theorem cSame {w : World} {A1 A2 : Option Addr} {n1 c1 n2 c2 : Nat} {l1 l2 : List Int} (h1 : Rd w A1 n1 c1 l1) (h2 : Rd w A2 n2 c2 l2) (he : l1 = l2) : Calls Tryd.prog 12 #[.slice A1 n1 c1, .slice A2 n2 c2] w (Says w true) := by
  obtain ⟨rfl, a2, a3⟩ := h1
  obtain ⟨rfl, b2, b3⟩ := h2
  exact (screelaw2_same.calls A1 c1 l1 A2 c2 l2 true w a3 a2 b3 b2 (by unfold screelaw2_same.f; rw [if_pos a3.2.1]; simp [he])).mono fun _ _ h => Says.of h
theorem cPutUint {w : World} {A1 : Option Addr} {n1 c1 : Nat} {l1 : List Int} {x : Int} (h1 : Rd w A1 n1 c1 l1) (hl : n1 ≤ 140737488355000) (h0 : 0 ≤ x) (hx : x < 18446744073709551616) : Calls Tryd.prog 21 #[.slice A1 n1 c1, .int .u64 x] w (Made w (l1 ++ numL x.toNat)) := by
  obtain ⟨rfl, a2, a3⟩ := h1
  exact (codec_PutUint.calls A1 c1 l1 x _ w a3 a2 (by unfold codec_PutUint.f; rw [if_pos ⟨h0, hx, hl⟩])).mono fun _ _ h => Made.of h
theorem cPutNat {w : World} {A1 : Option Addr} {n1 c1 : Nat} {l1 : List Int} {x : Nat} (h1 : Rd w A1 n1 c1 l1) (hl : n1 ≤ 140737488355000) (hx : x < 18446744073709551616) : Calls Tryd.prog 21 #[.slice A1 n1 c1, .int .u64 (x : Int)] w (Made w (l1 ++ numL x)) := by
  have h := cPutUint (x := (x : Int)) h1 hl (by omega) (by omega)
  rwa [Int.toNat_natCast] at h
theorem cPutText {w : World} {A1 : Option Addr} {n1 c1 : Nat} {l1 : List Int} {s : ByteArray} (h1 : Rd w A1 n1 c1 l1) (hl : n1 + s.size ≤ 140737488355000) : Calls Tryd.prog 22 #[.slice A1 n1 c1, .string s] w (Made w (l1 ++ (numL s.size ++ bytesOf s))) := by
  obtain ⟨rfl, a2, a3⟩ := h1
  exact (codec_PutText.calls A1 c1 l1 s _ w a3 a2 (by unfold codec_PutText.f; rw [if_pos hl])).mono fun _ _ h => Made.of h
theorem cUint {w : World} {A : Option Addr} {n c a b e : Nat} {l : List Int} (h : Rd w A n c l) (hl : n ≤ 140737488355328) (hb : Bytes l) (hr : uintN l = (a, b, e)) : Calls Tryd.prog 19 #[.slice A n c] w fun e' w' => e' = .returned (.tuple #[.int .u64 (a : Int), .int .i64 (b : Int), .int .i64 (e : Int)]) ∧ Below w.heap.size w w' := by
  obtain ⟨rfl, a2, a3⟩ := h
  exact (codec_Uint.calls A c l a b e w a3 a2 (by unfold codec_Uint.f uintL i3; rw [if_pos ⟨okB_iff.2 hb, hl⟩, hr])).mono fun _ _ h => ⟨h.1, h.2.below⟩
theorem cText {w : World} {A : Option Addr} {n c : Nat} {l : List Int} {m k e : Int} {s : ByteArray} (h : Rd w A n c l) (hl : n ≤ 140737488351232) (hb : Bytes l) (hm1 : -9223372036854775808 ≤ m) (hm2 : m ≤ 9223372036854775807) (hr : textL l m = (s, k, e)) : Calls Tryd.prog 23 #[.slice A n c, .int .i64 m] w fun e' w' => e' = .returned (.tuple #[.string s, .int .i64 k, .int .i64 e]) ∧ Below w.heap.size w w' := by
  obtain ⟨rfl, a2, a3⟩ := h
  exact (codec_Text.calls A c l m s k e w a3 a2 (by unfold codec_Text.f; rw [if_pos ⟨okB_iff.2 hb, hl, hm1, hm2⟩, hr])).mono fun _ _ h => ⟨h.1, h.2.below⟩
theorem cFrame {w : World} {A : Option Addr} {n c : Nat} {l : List Int} (h : Rd w A n c l) (hl : n ≤ 140737488351232) (hb : Bytes l) (hT : GT w) : Calls Tryd.prog 14 #[.slice A n c] w (Made w (frameL l)) := by
  obtain ⟨rfl, a2, a3⟩ := h
  exact (codec_Frame.calls A c l _ w a3 a2 (by unfold codec_Frame.f; rw [if_pos ⟨okB_iff.2 hb, hl⟩]) hT).mono fun _ _ h => Made.of h
theorem cUnframe {w : World} {A : Option Addr} {n c : Nat} {l x : List Int} {k e : Int} (h : Rd w A n c l) (hl : n ≤ 140737488351232) (hb : Bytes l) (hT : GT w) (hr : unframeL l = (x, k, e)) : Calls Tryd.prog 20 #[.slice A n c] w fun e' w' => ∃ A' n' c' l', e' = .returned (.tuple #[.slice A' n' c', .int .i64 k, .int .i64 e]) ∧ l' = x ∧ Rd w' A' n' c' l' ∧ Below w.heap.size w w' := by
  obtain ⟨rfl, a2, a3⟩ := h
  refine (codec_Unframe.calls A c l x k e w a3 a2 (by unfold codec_Unframe.f; rw [if_pos ⟨okB_iff.2 hb, hl⟩, hr]) hT).mono ?_
  rintro e' w' ⟨v, rfl, h1, h2⟩
  obtain ⟨A', n', c', rfl, h3, h4⟩ := Rd.of_R h1
  exact ⟨A', n', c', x, rfl, rfl, h3, h2⟩
set_option maxHeartbeats 400000 in
theorem known_f : screelaw2_known.f = some true := by
  have hU : codec_Uint.f [172, 2, 9] = some (300, 2, 0) := by decide +kernel
  have hT : codec_Text.f [2, 97, 98, 99] 2 = some (⟨#[97, 98]⟩, 3, 0) := by decide +kernel
  have hF : codec_Frame.f [97] = some [1, 97, 196, 255, 110, 113] := by
    unfold codec_Frame.f frameL
    rw [show numL ([97] : List Int).length = [1] from numL_small (by decide)]
    decide +kernel
  have hS : codec_Sum.f [49, 50, 51, 52, 53, 54, 55, 56, 57] = some 3808858755 := by decide +kernel
  unfold screelaw2_known.f
  rw [hU, hT, hF, hS]
  decide +kernel
theorem cKnown {w : World} (hT : GT w) : Calls Tryd.prog 17 #[] w (Says w true) := (screelaw2_known.calls true w known_f hT).mono fun _ _ h => h
theorem Rd.take {w : World} {A : Option Addr} {n c : Nat} {l : List Int} (h : Rd w A n c l) (m : Nat) (hm : m ≤ n) : Rd w A m c (l.take m) := by
  obtain ⟨rfl, a2, a3⟩ := h
  have h3 := C_take0 a3 m hm _ rfl
  have hl : (l.take m).length = m := by rw [List.length_take]; omega
  rw [hl] at h3
  exact ⟨hl, by omega, h3⟩
set_option maxHeartbeats 400000 in
theorem cPart {w : World} {A : Option Addr} {n c : Nat} {l : List Int} (h : Rd w A n c l) (hn : n ≤ 140737488355328) : Calls Tryd.prog 18 #[.slice A n c] w fun e w' => ∃ m, e = .returned (.slice A m c) ∧ m ≤ 262144 ∧ m ≤ n ∧ Rd w' A m c (l.take m) ∧ m = min n 262144 ∧ Below w.heap.size w w' := by
  have hc := h.2.1
  obtain ⟨i0, hi0, _, hsz, _⟩ := info_parts infoB
  by_cases hlt : n ≤ 262144
  · have hr := h.take n (Nat.le_refl _)
    have hcut := cut_to (P := Tryd.prog) 22 5 .i64 Tryd.underlying22 hi0 A n c (n : Int) (by omega) (by omega) hc
    rw [Int.toNat_natCast] at hcut
    have HR := Aside0.mk hr
    clear hr h hi0 hsz
    go_enter Tryd.func18, Tryd.ntmps18
    go_wp2
    go_ret
    exact ⟨n, rfl, hlt, Nat.le_refl _, HR.out, by omega, Below.refl _ _⟩
  · have hr := h.take 262144 (by omega)
    have hcut := cut_to (P := Tryd.prog) 22 5 .i64 Tryd.underlying22 hi0 A n c (262144 : Int) (by omega) (by omega) hc
    have HR := Aside0.mk hr
    clear hr h hi0 hsz
    go_enter Tryd.func18, Tryd.ntmps18
    go_wp2
    go_ret
    exact ⟨262144, rfl, Nat.le_refl _, by omega, HR.out, by omega, Below.refl _ _⟩
end Go.Proofs.YtipefhadafildaaDoor.WrapB
