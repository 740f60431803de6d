/- The filter's functions as the laws' walks take them (this claim's own lemmas). -/
import Derived.Test.YtlcohooognjmaaaDoorQBlx1
namespace Go.Proofs.YtlcohooognjmaaaDoor.BlW
open Go.RowKit Go.Proofs.YtlcohooognjmaaaDoorW.PrintWords Go.Proofs.YtlcohooognjmaaaDoor.Own Go.Proofs.YtlcohooognjmaaaDoor.G Go.Proofs.YtlcohooognjmaaaDoor.Bl Go.Proofs.YtlcohooognjmaaaDoor.QBl
set_option linter.unusedVariables false
/-- A list that is read at A, n long, with room for c. -/
def Rd {α : Type} (d : Kd α) (w : World) (A : Option Addr) (n c : Nat) (l : List α) : Prop := l.length = n ∧ n ≤ c ∧ Kd.C d w A n l
theorem Rd.step {α : Type} {d : Kd α} {w w' : World} {A : Option Addr} {n c : Nat} {l : List α} (h : Rd d w A n c l) (hb : Below w.heap.size w w') : Rd d w' A n c l := ⟨h.1, h.2.1, Kd.C_below h.2.2 hb⟩
theorem Rd.nil {α : Type} (d : Kd α) (w : World) : Rd d w none 0 0 [] := ⟨rfl, Nat.le_refl _, Kd.C_nil d w⟩
theorem Rd.of_R {α : Type} {d : Kd α} {e : Nat} {w : World} {base : Nat} {ok : Nat → Prop} {v : Value} {l : List α} (h : Kd.R d e w base ok v l) : ∃ A n c, v = .slice A n c ∧ Rd d w A n c l ∧ Kd.R d e w base ok (.slice A n c) l := by
  obtain ⟨A, c, rfl, h1, h2⟩ := Kd.R_reads h
  exact ⟨A, l.length, c, rfl, ⟨rfl, h1, h2⟩, h⟩
theorem Rd.of_own {α : Type} {d : Kd α} {e : Nat} {w : World} {base : Nat} {ok : Nat → Prop} {A : Option Addr} {n c : Nat} {l : List α} (h : Kd.R d e w base ok (.slice A n c) l) : Rd d w A n c l := by
  obtain ⟨A', n', c', e1, h1, -⟩ := Rd.of_R h
  injection e1 with e2 e3 e4
  subst e2 e3 e4
  exact h1
theorem Rd.take {α : Type} {d : Kd α} {w : World} {A : Option Addr} {n c : Nat} {l : List α} (h : Rd d w A n c l) (m : Nat) (hm : m ≤ n) : Rd d w A m c (l.take m) := by
  obtain ⟨rfl, a2, a3⟩ := h
  have h3 := Kd.C_take a3 hm
  have hl : (l.take m).length = m := by rw [List.length_take]; omega
  rw [hl] at h3
  exact ⟨hl, by omega, h3⟩
/-- What a call that makes a list answers: the list, told apart; older memory stays. -/
def Made {α : Type} (d : Kd α) (t : Nat) (w : World) (spec : List α) (e : Ending) (w' : World) : Prop := ∃ A n c l, e = .returned (.slice A n c) ∧ l = spec ∧ Rd d w' A n c l ∧ Kd.R d t w' w.heap.size (fun _ => True) (.slice A n c) l ∧ Below w.heap.size w w'
theorem Made.of {α : Type} {d : Kd α} {t : Nat} {w : World} {spec : List α} {e : Ending} {w' : World} (h : ∃ v0_ : Value, e = .returned (v0_) ∧ Kd.R d t w' w.heap.size (fun _ => True) v0_ spec ∧ Below w.heap.size w w') : Made d t w spec e w' := by
  obtain ⟨v, rfl, h1, h2⟩ := h
  obtain ⟨A, n, c, rfl, h3, h4⟩ := Rd.of_R h1
  exact ⟨A, n, c, spec, rfl, rfl, h3, h4, h2⟩
def Says (w : World) (b : Bool) (e : Ending) (w' : World) : Prop := e = .returned (.bool b) ∧ Below w.heap.size w w'
theorem Says.of {w : World} {b : Bool} {e : Ending} {w' : World} (h : e = .returned (.bool b) ∧ Drawn0 w w') : Says w b e w' := ⟨h.1, h.2.below⟩
def Tab (w : World) : Prop := GT w
theorem Tab.step {w w' : World} (h : Tab w) (hb : Below w.heap.size w w') : Tab w' := GT.below h hb
/-- Older memory stays, from the law's begin on. -/
def Bel (w W : World) : Prop := Below w.heap.size w W
theorem Bel.step {w W W' : World} (h : Bel w W) (hb : Below W.heap.size W W') : Bel w W' := below_step h hb
theorem cSame {w : World} {A1 A2 : Option Addr} {n1 c1 n2 c2 : Nat} {l1 l2 : List Int} (h1 : Rd (Kd.int .u8) w A1 n1 c1 l1) (h2 : Rd (Kd.int .u8) w A2 n2 c2 l2) (he : l1 = l2) : Calls Tryd.prog 9 #[.slice A1 n1 c1, .slice A2 n2 c2] w (Says w true) := by
  obtain ⟨rfl, a2, a3⟩ := h1
  obtain ⟨rfl, b2, b3⟩ := h2
  exact (screelaw8_same.calls A1 c1 l1 A2 c2 l2 true w a3 a2 b3 b2 (by unfold screelaw8_same.f; rw [if_pos a3.2.1]; simp [he])).mono fun _ _ h => Says.of h
theorem cMake {w : World} {A : Option Addr} {n c : Nat} {l : List ByteArray} {b : Int} (h : Rd Kd.string w A n c l) (hl : n ≤ 8796093022208) (hs : ∀ s ∈ l, s.size ≤ 9223372036854775807) (hb1 : -9223372036854775808 ≤ b) (hb2 : b ≤ 9223372036854775807) (hT : Tab w) : Calls Tryd.prog 10 #[.slice A n c, .int .i64 b] w (Made (Kd.int .u8) 5 w (makeL l b)) := by
  obtain ⟨rfl, a2, a3⟩ := h
  exact (bloom_Make.calls A c l b _ w a3 a2 (by unfold bloom_Make.f; rw [if_pos ⟨sizesB_iff.2 hs, hl, hb1, hb2⟩]) hT).mono fun _ _ h => Made.of h
theorem cMay {w : World} {A : Option Addr} {n c : Nat} {f : List Int} {s : ByteArray} (h : Rd (Kd.int .u8) w A n c f) (hl : n ≤ 140737488351232) (hf : Bytes f) (hs : s.size ≤ 9223372036854775807) (hT : Tab w) : Calls Tryd.prog 15 #[.slice A n c, .string s] w (Says w (mayL f s)) := by
  obtain ⟨rfl, a2, a3⟩ := h
  exact (bloom_May.calls A c f s _ w a3 a2 (by unfold bloom_May.f; rw [if_pos ⟨okB_iff.2 hf, hl, hs⟩]) hT).mono fun _ _ h => h
theorem infoS : (Tryd.prog.info? 9).map (fun i => (i.zero, i.size, i.bytes)) = some (some (.string ByteArray.empty), 1, 16) := by kernel_rfl
set_option maxHeartbeats 400000 in
theorem cSome {w : World} {A : Option Addr} {n c : Nat} {l : List ByteArray} (h : Rd Kd.string w A n c l) (hn : n ≤ 9223372036854775807) : Calls Tryd.prog 17 #[.slice A n c] w fun e w' => ∃ m, e = .returned (.slice A m c) ∧ m ≤ 4000 ∧ m ≤ n ∧ Rd Kd.string w' A m c (l.take m) ∧ w' = w := by
  have hc := h.2.1
  obtain ⟨i0, hi0, _, hsz, _⟩ := info_parts infoS
  by_cases hlt : n ≤ 4000
  · have hr := h.take n (Nat.le_refl _)
    have hcut := cut_to (P := Tryd.prog) 22 9 .i64 Tryd.underlying22 hi0 A n c (n : Int) (by omega) (by omega) hc
    rw [Int.toNat_natCast] at hcut
    have e1 : (if (4000 : Int) < (n : Int) then (4000 : Int) else (n : Int)) = (n : Int) := if_neg (by omega)
    have HR := Aside0.mk hr
    clear hr h hi0 hsz
    go_enter Tryd.func17, Tryd.ntmps17
    go_wp2
    go_ret
    exact ⟨n, rfl, hlt, Nat.le_refl _, HR.out, rfl⟩
  · have hr := h.take 4000 (by omega)
    have hcut := cut_to (P := Tryd.prog) 22 9 .i64 Tryd.underlying22 hi0 A n c (4000 : Int) (by omega) (by omega) hc
    have e1 : (if (4000 : Int) < (n : Int) then (4000 : Int) else (n : Int)) = (4000 : Int) := if_pos (by omega)
    have HR := Aside0.mk hr
    clear hr h hi0 hsz
    go_enter Tryd.func17, Tryd.ntmps17
    go_wp2
    go_ret
    exact ⟨4000, rfl, Nat.le_refl _, by omega, HR.out, rfl⟩
set_option maxHeartbeats 400000 in
theorem known_f : screelaw8_known.f = some true := by
  have h1 : bloom_Make.f [(⟨#[97]⟩ : ByteArray)] 10 = some [1, 0, 1, 1, 0, 1, 1, 1, 6] := by decide +kernel
  have h2 : bloom_May.f [0, 0, 0, 0, 0, 0, 0, 0, 1] (⟨#[97]⟩ : ByteArray) = some false := by decide +kernel
  have h3 : bloom_May.f [] (⟨#[97]⟩ : ByteArray) = some true := by decide +kernel
  unfold screelaw8_known.f
  rw [h1]
  simp only [Option.bind_some]
  rw [h2, h3]
  decide +kernel
theorem cKnown {w : World} (hT : Tab w) : Calls Tryd.prog 16 #[] w (Says w true) := (screelaw8_known.calls true w known_f hT).mono fun _ _ h => h
end Go.Proofs.YtlcohooognjmaaaDoor.BlW
