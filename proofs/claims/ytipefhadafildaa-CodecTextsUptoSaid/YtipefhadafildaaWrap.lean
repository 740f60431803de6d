/- The codec's functions as the laws' walks take them: lists that are read, with their lengths apart (this claim's own lemmas). -/
import Derived.Test.YtipefhadafildaaSit
import Derived.Test.YtipefhadafildaaQAx
namespace Go.Proofs.Ytipefhadafildaa.Wrap
open Go.RowKit Go.Proofs.YtipefhadafildaaW.PrintWords Go.Proofs.Ytipefhadafildaa.Own Go.Proofs.Ytipefhadafildaa.Room Go.Proofs.Ytipefhadafildaa.QA
set_option linter.unusedVariables false
/-- A list of bytes that is read at A, n long, with room for c. -/
def Rd (w : World) (A : Option Addr) (n c : Nat) (l : List Int) : Prop := l.length = n ∧ n ≤ c ∧ Kd.C (Kd.int .u8) w A n l
theorem Rd.step {w w' : World} {A : Option Addr} {n c : Nat} {l : List Int} (h : Rd w A n c l) (hb : Below w.heap.size w w') : Rd w' A n c l := ⟨h.1, h.2.1, Kd.C_below h.2.2 hb⟩
theorem Rd.nil (w : World) : Rd w none 0 0 [] := ⟨rfl, Nat.le_refl _, Kd.C_of_reads (enc := Value.int .u8) (d := (0 : Int)) (h1 := fun _ => rfl) ⟨rfl, by simp, fun h => by simp at h⟩⟩
theorem Rd.of_R {w : World} {base : Nat} {v : Value} {l : List Int} (h : Kd.R (Kd.int .u8) 5 w base (fun _ => True) v l) : ∃ A n c, v = .slice A n c ∧ Rd w A n c l ∧ Kd.R (Kd.int .u8) 5 w base (fun _ => True) (.slice A n c) l := by
  obtain ⟨A, c, rfl, h1, h2⟩ := Kd.R_reads h
  exact ⟨A, l.length, c, rfl, ⟨rfl, h1, h2⟩, h⟩
theorem Rd.lent {w W : World} {g b n cap : Nat} {l : List Int} {Ak : Option Addr} {ck : Nat} {lk : List Int} (h : Sit w W g b n cap l Ak ck lk) : Rd W (some ⟨b, 0, none⟩) n (n + 600) l := by
  have h1 := h.reads
  have h2 := h.len
  rw [h2] at h1
  exact ⟨h2, by omega, h1⟩
theorem Rd.kept {w W : World} {g b n cap m : Nat} {l : List Int} {Ak : Option Addr} {ck : Nat} {lk : List Int} (h : Sit w W g b n cap l Ak ck lk) (hm : lk.length = m) : Rd W Ak m ck lk := by
  subst hm
  exact ⟨rfl, (Kd.R_reads' h.kept).2.1, h.keeps⟩
/-- What a call that makes a list answers: the list, told apart; older memory stays. -/
def Made (w : World) (spec : List Int) (e : Ending) (w' : World) : Prop := ∃ A n c l, e = .returned (.slice A n c) ∧ l = spec ∧ Rd w' A n c l ∧ Kd.R (Kd.int .u8) 5 w' w.heap.size (fun _ => True) (.slice A n c) l ∧ Below w.heap.size w w'
theorem Made.of {w : World} {spec : List Int} {e : Ending} {w' : World} (h : ∃ v0_ : Value, e = .returned (v0_) ∧ Kd.R (Kd.int .u8) 5 w' w.heap.size (fun _ => True) v0_ spec ∧ Below w.heap.size w w') : Made w spec e w' := by
  obtain ⟨v, rfl, h1, h2⟩ := h
  obtain ⟨A, n, c, rfl, h3, h4⟩ := Rd.of_R h1
  exact ⟨A, n, c, spec, rfl, rfl, h3, h4, h2⟩
def Says (w : World) (b : Bool) (e : Ending) (w' : World) : Prop := e = .returned (.bool b) ∧ Below w.heap.size w w'
theorem Says.of {w : World} {b : Bool} {e : Ending} {w' : World} (h : e = .returned (.bool b) ∧ Drawn0 w w') : Says w b e w' := ⟨h.1, h.2.below⟩

theorem cBehind {w : World} {A1 A2 : Option Addr} {n1 c1 n2 c2 : Nat} {l1 l2 : List Int} (h1 : Rd w A1 n1 c1 l1) (h2 : Rd w A2 n2 c2 l2) (hl : n1 + n2 < 140737488355328) : Calls Try.prog 6 #[.slice A1 n1 c1, .slice A2 n2 c2] w (Made w (l1 ++ l2)) := by
  obtain ⟨rfl, a2, a3⟩ := h1
  obtain ⟨rfl, b2, b3⟩ := h2
  exact (screelaw2_behind.calls A1 c1 l1 A2 c2 l2 (l1 ++ l2) w a3 a2 b3 b2 (by unfold screelaw2_behind.f; rw [if_pos hl])).mono fun _ _ h => Made.of h
theorem cSame {w : World} {A1 A2 : Option Addr} {n1 c1 n2 c2 : Nat} {l1 l2 : List Int} (h1 : Rd w A1 n1 c1 l1) (h2 : Rd w A2 n2 c2 l2) (he : l1 = l2) : Calls Try.prog 8 #[.slice A1 n1 c1, .slice A2 n2 c2] w (Says w true) := by
  obtain ⟨rfl, a2, a3⟩ := h1
  obtain ⟨rfl, b2, b3⟩ := h2
  exact (screelaw2_same.calls A1 c1 l1 A2 c2 l2 true w a3 a2 b3 b2 (by unfold screelaw2_same.f; rw [if_pos a3.2.1]; simp [he])).mono fun _ _ h => Says.of h
theorem cPutUint {w : World} {A1 : Option Addr} {n1 c1 : Nat} {l1 : List Int} {x : Int} (h1 : Rd w A1 n1 c1 l1) (hl : n1 ≤ 140737488355000) (h0 : 0 ≤ x) (hx : x < 18446744073709551616) : Calls Try.prog 9 #[.slice A1 n1 c1, .int .u64 x] w (Made w (l1 ++ numL x.toNat)) := by
  obtain ⟨rfl, a2, a3⟩ := h1
  exact (codec_PutUint.calls A1 c1 l1 x _ w a3 a2 (by unfold codec_PutUint.f; rw [if_pos ⟨h0, hx, hl⟩])).mono fun _ _ h => Made.of h
theorem cNumber {w : World} {x : Int} (h0 : 0 ≤ x) (hx : x < 18446744073709551616) : Calls Try.prog 10 #[.int .u64 x] w (Made w (numL x.toNat)) :=
  (screeref2_Number.calls x _ w (by unfold screeref2_Number.f; rw [if_pos ⟨h0, hx⟩])).mono fun _ _ h => Made.of h
theorem cPutText {w : World} {A1 : Option Addr} {n1 c1 : Nat} {l1 : List Int} {s : ByteArray} (h1 : Rd w A1 n1 c1 l1) (hl : n1 + s.size ≤ 140737488355000) : Calls Try.prog 13 #[.slice A1 n1 c1, .string s] w (Made w (l1 ++ (numL s.size ++ bytesOf s))) := by
  obtain ⟨rfl, a2, a3⟩ := h1
  exact (codec_PutText.calls A1 c1 l1 s _ w a3 a2 (by unfold codec_PutText.f; rw [if_pos hl])).mono fun _ _ h => Made.of h
theorem cWords {w : World} {s : ByteArray} (hl : s.size ≤ 140737488355000) : Calls Try.prog 14 #[.string s] w (Made w (numL s.size ++ bytesOf s)) :=
  (screeref2_Words.calls s _ w (by unfold screeref2_Words.f; rw [if_pos hl])).mono fun _ _ h => Made.of h
theorem cUintOf {w : World} {A1 A2 : Option Addr} {n1 c1 n2 c2 : Nat} {l1 l2 : List Int} (h1 : Rd w A1 n1 c1 l1) (h2 : Rd w A2 n2 c2 l2) (hl : n1 ≤ 140737488355328) (hb : Bytes l1) (he : l1 = l2) : Calls Try.prog 11 #[.slice A1 n1 c1, .slice A2 n2 c2] w (Says w true) := by
  subst he
  obtain ⟨rfl, a2, a3⟩ := h1
  obtain ⟨rfl, b2, b3⟩ := h2
  exact (screelaw2_uintOf.calls A1 c1 l1 A2 c2 l1 true w a3 a2 b3 b2 (by unfold screelaw2_uintOf.f codec_Uint.f screeref2_Uint.f; rw [if_pos ⟨okB_iff.2 hb, hl⟩]; simp)).mono fun _ _ h => Says.of h
theorem cTextOf {w : World} {A1 A2 : Option Addr} {n1 c1 n2 c2 : Nat} {l1 l2 : List Int} {m : Int} (h1 : Rd w A1 n1 c1 l1) (h2 : Rd w A2 n2 c2 l2) (hl : n1 ≤ 140737488351232) (hb : Bytes l1) (he : l1 = l2) (hm1 : -9223372036854775808 ≤ m) (hm2 : m ≤ 9223372036854775807) : Calls Try.prog 15 #[.slice A1 n1 c1, .slice A2 n2 c2, .int .i64 m] w (Says w true) := by
  subst he
  obtain ⟨rfl, a2, a3⟩ := h1
  obtain ⟨rfl, b2, b3⟩ := h2
  exact (screelaw2_textOf.calls A1 c1 l1 A2 c2 l1 m true w a3 a2 b3 b2 (by unfold screelaw2_textOf.f codec_Text.f screeref2_Text.f; rw [if_pos ⟨okB_iff.2 hb, hl, hm1, hm2⟩]; simp)).mono fun _ _ h => Says.of h
end Go.Proofs.Ytipefhadafildaa.Wrap
