/- The document's filter as the laws' walks take it (this claim's own lemmas). -/
import Derived.Test.YtlcohooognjmaaaDoorBlW
import Derived.Test.YtlcohooognjmaaaDoorQBlx2
import Derived.Test.YtlcohooognjmaaaDoorSit
namespace Go.Proofs.YtlcohooognjmaaaDoor.BlW
open Go.RowKit Go.Proofs.YtlcohooognjmaaaDoorW.PrintWords Go.Proofs.YtlcohooognjmaaaDoor.Own Go.Proofs.YtlcohooognjmaaaDoor.G Go.Proofs.YtlcohooognjmaaaDoor.Bl Go.Proofs.YtlcohooognjmaaaDoor.QBl
set_option linter.unusedVariables false
theorem cMayB {w : World} {A : Option Addr} {n c : Nat} {f : List Int} {s : ByteArray} {m : Bool} (h : Rd (Kd.int .u8) w A n c f) (hl : n ≤ 140737488351232) (hf : Bytes f) (hs : s.size ≤ 9223372036854775807) (hT : Tab w) (hm : mayL f s = m) : Calls Tryd.prog 15 #[.slice A n c, .string s] w (Says w m) := by
  rw [← hm]
  exact cMay h hl hf hs hT
theorem cRefMay {w : World} {A : Option Addr} {n c : Nat} {f : List Int} {s : ByteArray} {m : Bool} (h : Rd (Kd.int .u8) w A n c f) (hl : n ≤ 140737488351232) (hf : Bytes f) (hs : s.size ≤ 140737488355328) (hm : mayL f s = m) : Calls Tryd.prog 14 #[.slice A n c, .string s] w (Says w m) := by
  obtain ⟨rfl, a2, a3⟩ := h
  exact (screeref8_May.calls A c f s _ w a3 a2 (by unfold screeref8_May.f; rw [if_pos ⟨okB_iff.2 hf, hl, hs⟩, hm])).mono fun _ _ h => h
theorem cRefMake {w : World} {A : Option Addr} {n c : Nat} {l : List ByteArray} {b : Int} (h : Rd Kd.string w A n c l) (hl : n ≤ 8796093022208) (hs : ∀ s ∈ l, s.size ≤ 140737488355328) (hb1 : -9223372036854775808 ≤ b) (hb2 : b ≤ 9223372036854775807) : Calls Tryd.prog 8 #[.slice A n c, .int .i64 b] w (Made (Kd.int .u8) 5 w (makeL l b)) := by
  obtain ⟨rfl, a2, a3⟩ := h
  exact (screeref8_Make.calls A c l b _ w a3 a2 (by unfold screeref8_Make.f; rw [if_pos ⟨sizesC_iff.2 hs, hl, hb1, hb2⟩])).mono fun _ _ h => Made.of h
theorem lent {w W : World} {g b n cap : Nat} {l : List Int} {Ak : Option Addr} {ck : Nat} {lk : List Int} (h : Room.Sit w W g b n cap l Ak ck lk) : Rd (Kd.int .u8) W (some ⟨b, 0, none⟩) n (n + 600) l := by
  have h1 := h.reads
  have h2 := h.len
  rw [h2] at h1
  exact ⟨h2, by omega, h1⟩
theorem kept {w W : World} {g b n cap : Nat} {l : List Int} {Ak : Option Addr} {ck : Nat} {lk : List Int} (h : Room.Sit w W g b n cap l Ak ck lk) : Rd (Kd.int .u8) W Ak lk.length ck lk := Rd.of_own h.kept
end Go.Proofs.YtlcohooognjmaaaDoor.BlW
