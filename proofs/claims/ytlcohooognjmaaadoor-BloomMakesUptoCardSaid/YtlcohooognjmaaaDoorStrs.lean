/- A slice of strings that came in, as a row that is read (this claim's own lemmas). -/
import Derived.Test.YtlcohooognjmaaaDoorBulk
import Derived.SliceStrings
import Derived.Test.YtlcohooognjmaaaDoorWWords
namespace Go.Proofs.YtlcohooognjmaaaDoor
open Go.ChangeShapes Go.WideShapes Go.ChangeAt Go.RowKit
open YtlcohooognjmaaaDoorW.PrintWords
theorem strs_open {H : Type} {P : Program} {enc : TypeId × Value → H} {W : World} {base : Nat} {held : Bool} {t e fuel : Nat} {a : Option Addr} {len cap : Nat} {d : DataW H} {ps : List MemPlace} (ht : P.underlying t = some (.slice e)) (he : P.underlying e = some .string) (hc : P.cellsOf e = 1)
    (h : DataW.trod enc P W base (fun _ => true) held fuel t (Value.cells (.slice a len cap)).toList = some (d, ps)) :
    ∃ l : List ByteArray, len = l.length ∧ Kd.C Kd.string W a l.length l ∧ l.length ≤ cap ∧ (∀ s ∈ l, s.size ≤ 9223372036854775807) ∧ (d = .nil ∧ l = [] ∨ ∃ r, d = .slice (strs l) r) := by
  rcases open_strings ht he hc h with ⟨hcs, hx⟩ | ⟨x, n, c, ss, hcs, _, hl, hm, hz, hx, hcell, hs⟩
  · simp [Value.cells] at hcs
    obtain ⟨rfl, rfl, rfl⟩ := hcs
    exact ⟨[], rfl, Kd.C_nil _ _, Nat.le_refl _, by simp, .inl ⟨(Prod.mk.inj hx).1, rfl⟩⟩
  · simp [Value.cells] at hcs
    obtain ⟨rfl, rfl, rfl⟩ := hcs
    have hz' : ss.length = cap := by simpa using hz
    have hlen : (ss.take len).length = len := by rw [List.length_take]; omega
    refine ⟨ss.take len, hlen.symm, ?_, by omega, fun s hm => hs s (List.mem_of_mem_take hm), .inr ⟨_, (Prod.mk.inj hx).1⟩⟩
    rw [hlen]
    refine Kd.C_of_reads (enc := Value.string) (d := ByteArray.empty) (h1 := fun _ => rfl) ⟨hlen, by unfold maxLen at hm; omega, fun hp => ⟨x, rfl, fun i hi => ?_⟩⟩
    rw [hcell i (by omega)]
    congr 2
    simp only [List.getD_eq_getElem?_getD, List.getElem?_take]
    rw [if_pos hi]
theorem strs_row {H : Type} {P : Program} {enc : TypeId × Value → H} {W : World} {base : Nat} {held : Bool} {t e fuel : Nat} {a : Option Addr} {len cap : Nat} {d : DataW H} {ps : List MemPlace} (ht : P.underlying t = some (.slice e)) (he : P.underlying e = some .string) (hc : P.cellsOf e = 1)
    (h : DataW.trod enc P W base (fun _ => true) held fuel t (Value.cells (.slice a len cap)).toList = some (d, ps)) :
    ∃ l : List ByteArray, len = l.length ∧ Kd.C Kd.string W a l.length l ∧ l.length ≤ cap ∧ (∀ s ∈ l, s.size ≤ 9223372036854775807) := by
  obtain ⟨l, h1, h2, h3, h4, _⟩ := strs_open ht he hc h
  exact ⟨l, h1, h2, h3, h4⟩
theorem strs_sum {H : Type} (l : List ByteArray) : l.length + (l.map ByteArray.size).sum ≤ Rows.uptoBulkAll (strs (H := H) l) := by
  induction l with
  | nil => simp
  | cons s l ih =>
    have e : strs (H := H) (s :: l) = .lit (.string s.data.toList) :: strs l := rfl
    rw [e]
    have h2 : s.data.size = s.size := rfl
    have h3 : Rows.uptoBulk (DataW.lit (H := H) (.string s.data.toList)) = s.size + 1 := by simp [Rows.uptoBulk, h2]
    simp only [List.map_cons, List.sum_cons, List.length_cons, Rows.uptoBulkAll, h3]
    omega
theorem strs_row_bulk {H : Type} {P : Program} {enc : TypeId × Value → H} {W : World} {base : Nat} {held : Bool} {t e fuel : Nat} {a : Option Addr} {len cap : Nat} {d : DataW H} {ps : List MemPlace} (ht : P.underlying t = some (.slice e)) (he : P.underlying e = some .string) (hc : P.cellsOf e = 1)
    (h : DataW.trod enc P W base (fun _ => true) held fuel t (Value.cells (.slice a len cap)).toList = some (d, ps)) :
    ∃ l : List ByteArray, len = l.length ∧ Kd.C Kd.string W a l.length l ∧ l.length ≤ cap ∧ (∀ s ∈ l, s.size ≤ 9223372036854775807) ∧ l.length + (l.map ByteArray.size).sum ≤ Rows.uptoBulk d := by
  obtain ⟨l, h1, h2, h3, h4, h5⟩ := strs_open ht he hc h
  refine ⟨l, h1, h2, h3, h4, ?_⟩
  rcases h5 with ⟨rfl, rfl⟩ | ⟨r, rfl⟩
  · simp
  · have := strs_sum (H := H) l
    simp only [Rows.uptoBulk]
    omega
end Go.Proofs.YtlcohooognjmaaaDoor
