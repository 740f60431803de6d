/- The codec's functions as the laws' walks take them (this claim's own lemmas). -/
import Derived.Test.YtipefhadafildaaDoorSitF
import Derived.Test.YtipefhadafildaaDoorQFramesx3
namespace Go.Proofs.YtipefhadafildaaDoor.WrapF
open Go.RowKit Go.Proofs.YtipefhadafildaaDoorW.PrintWords Go.Proofs.YtipefhadafildaaDoor.Own Go.Proofs.YtipefhadafildaaDoor.G Go.Proofs.YtipefhadafildaaDoor.Room Go.Proofs.YtipefhadafildaaDoor.QFrames
set_option linter.unusedVariables false
/-- A list of bytes that is read at A, n long, with room for c. -/
def Rd (w : World) (A : Option Addr) (n c : Nat) (l : List Int) : Prop := l.length = n ∧ n ≤ c ∧ Kd.C (Kd.int .u8) w A n l
theorem Rd.step {w w' : World} {A : Option Addr} {n c : Nat} {l : List Int} (h : Rd w A n c l) (hb : Below w.heap.size w w') : Rd w' A n c l := ⟨h.1, h.2.1, Kd.C_below h.2.2 hb⟩
theorem Rd.nil (w : World) : Rd w none 0 0 [] := ⟨rfl, Nat.le_refl _, Kd.C_of_reads (enc := Value.int .u8) (d := (0 : Int)) (h1 := fun _ => rfl) ⟨rfl, by simp, fun h => by simp at h⟩⟩
theorem Rd.of_R {w : World} {base : Nat} {v : Value} {l : List Int} (h : Kd.R (Kd.int .u8) 5 w base (fun _ => True) v l) : ∃ A n c, v = .slice A n c ∧ Rd w A n c l ∧ Kd.R (Kd.int .u8) 5 w base (fun _ => True) (.slice A n c) l := by
  obtain ⟨A, c, rfl, h1, h2⟩ := Kd.R_reads h
  exact ⟨A, l.length, c, rfl, ⟨rfl, h1, h2⟩, h⟩
/-- What a call that makes a list answers: the list, told apart; older memory stays. -/
def Made (w : World) (spec : List Int) (e : Ending) (w' : World) : Prop := ∃ A n c l, e = .returned (.slice A n c) ∧ l = spec ∧ Rd w' A n c l ∧ Kd.R (Kd.int .u8) 5 w' w.heap.size (fun _ => True) (.slice A n c) l ∧ Below w.heap.size w w'
theorem Made.of {w : World} {spec : List Int} {e : Ending} {w' : World} (h : ∃ v0_ : Value, e = .returned (v0_) ∧ Kd.R (Kd.int .u8) 5 w' w.heap.size (fun _ => True) v0_ spec ∧ Below w.heap.size w w') : Made w spec e w' := by
  obtain ⟨v, rfl, h1, h2⟩ := h
  obtain ⟨A, n, c, rfl, h3, h4⟩ := Rd.of_R h1
  exact ⟨A, n, c, spec, rfl, rfl, h3, h4, h2⟩
def Says (w : World) (b : Bool) (e : Ending) (w' : World) : Prop := e = .returned (.bool b) ∧ Below w.heap.size w w'
theorem Says.of {w : World} {b : Bool} {e : Ending} {w' : World} (h : e = .returned (.bool b) ∧ Drawn0 w w') : Says w b e w' := ⟨h.1, h.2.below⟩

def Tab (w : World) : Prop := GT w
theorem Tab.step {w w' : World} (h : Tab w) (hb : Below w.heap.size w w') : Tab w' := GT.below h hb
/-- Older memory stays, from the law's begin on. -/
def Bel (w W : World) : Prop := Below w.heap.size w W
theorem Bel.step {w W W' : World} (h : Bel w W) (hb : Below W.heap.size W W') : Bel w W' := below_step h hb
theorem cBehind {w : World} {A1 A2 : Option Addr} {n1 c1 n2 c2 : Nat} {l1 l2 : List Int} (h1 : Rd w A1 n1 c1 l1) (h2 : Rd w A2 n2 c2 l2) (hl : n1 + n2 < 140737488355328) : Calls Tryd.prog 8 #[.slice A1 n1 c1, .slice A2 n2 c2] w (Made w (l1 ++ l2)) := by
  obtain ⟨rfl, a2, a3⟩ := h1
  obtain ⟨rfl, b2, b3⟩ := h2
  exact (screelaw2_behind.calls A1 c1 l1 A2 c2 l2 (l1 ++ l2) w a3 a2 b3 b2 (by unfold screelaw2_behind.f; rw [if_pos hl])).mono fun _ _ h => Made.of h
theorem cSame {w : World} {A1 A2 : Option Addr} {n1 c1 n2 c2 : Nat} {l1 l2 : List Int} (h1 : Rd w A1 n1 c1 l1) (h2 : Rd w A2 n2 c2 l2) (he : l1 = l2) : Calls Tryd.prog 12 #[.slice A1 n1 c1, .slice A2 n2 c2] w (Says w true) := by
  obtain ⟨rfl, a2, a3⟩ := h1
  obtain ⟨rfl, b2, b3⟩ := h2
  exact (screelaw2_same.calls A1 c1 l1 A2 c2 l2 true w a3 a2 b3 b2 (by unfold screelaw2_same.f; rw [if_pos a3.2.1]; simp [he])).mono fun _ _ h => Says.of h
theorem cFrame {w : World} {A : Option Addr} {n c : Nat} {l : List Int} (h : Rd w A n c l) (hl : n ≤ 140737488351232) (hb : Bytes l) (hT : GT w) : Calls Tryd.prog 14 #[.slice A n c] w (Made w (frameL l)) := by
  obtain ⟨rfl, a2, a3⟩ := h
  exact (codec_Frame.calls A c l _ w a3 a2 (by unfold codec_Frame.f; rw [if_pos ⟨okB_iff.2 hb, hl⟩]) hT).mono fun _ _ h => Made.of h
theorem cRefFrame {w : World} {A : Option Addr} {n c : Nat} {l : List Int} (h : Rd w A n c l) (hl : n ≤ 140737488351232) (hb : Bytes l) : Calls Tryd.prog 15 #[.slice A n c] w (Made w (frameL l)) := by
  obtain ⟨rfl, a2, a3⟩ := h
  exact (screeref2_Frame.calls A c l _ w a3 a2 (by unfold screeref2_Frame.f; rw [if_pos ⟨okB_iff.2 hb, hl⟩])).mono fun _ _ h => Made.of h
theorem cFrameOf {w : World} {A1 A2 : Option Addr} {n1 c1 n2 c2 : Nat} {l1 l2 : List Int} (h1 : Rd w A1 n1 c1 l1) (h2 : Rd w A2 n2 c2 l2) (he : l2 = l1) (hb : Bytes l1) (hl : n1 ≤ 140737488351232) (hT : GT w) : Calls Tryd.prog 16 #[.slice A1 n1 c1, .slice A2 n2 c2] w (Says w true) := by
  subst he
  obtain ⟨rfl, a2, a3⟩ := h1
  obtain ⟨rfl, b2, b3⟩ := h2
  refine (screelaw2_frameOf.calls A1 c1 l2 A2 c2 l2 true w a3 a2 b3 b2 ?_ hT).mono fun _ _ h => h
  unfold screelaw2_frameOf.f codec_Unframe.f screeref2_Unframe.f
  rw [if_pos ⟨okB_iff.2 hb, hl⟩]
  simp only [Option.bind_some]
  unfold screelaw2_same.f
  have hlen : (unframeL l2).1.length ≤ 9223372036854775807 := by
    unfold unframeL
    repeat' split
    all_goals (first | (simp; done) | (simp; omega))
  rw [if_pos hlen]
  simp
end Go.Proofs.YtipefhadafildaaDoor.WrapF
