/- What the bound on bulk gives (this claim's own copy of the small lemmas). -/
import Derived.Test.YtnamanalacjhnaaRows
import Derived.WalkKit
import Derived.ProofKit
import Derived.OpenShut
namespace Go.Proofs.Ytnamanalacjhnaa
open Go.ChangeShapes Go.WideShapes Go.ChangeAt Go.RowKit
theorem part_one {H : Type} (d : DataW H) : 1 ≤ Rows.uptoBulk d := by
  cases d with
  | lit l => cases l <;> simp [Rows.uptoBulk]
  | nil => simp [Rows.uptoBulk]
  | ptr d => simp [Rows.uptoBulk]
  | slice elems spare => simp [Rows.uptoBulk]
  | agg parts => simp [Rows.uptoBulk]
  | iface t d => simp [Rows.uptoBulk]
  | map entries => simp [Rows.uptoBulk]
  | held h => simp [Rows.uptoBulk]
theorem part_le {H : Type} {d : DataW H} {l : List (DataW H)} (h : d ∈ l) : Rows.uptoBulk d ≤ Rows.uptoBulkAll l := by
  induction l with
  | nil => cases h
  | cons x r ih =>
    simp only [Rows.uptoBulkAll]
    cases List.mem_cons.1 h with
    | inl e => subst e; omega
    | inr e => have := ih e; omega
theorem length_bulk {H : Type} (l : List (DataW H)) : l.length ≤ Rows.uptoBulkAll l := by
  induction l with
  | nil => simp [Rows.uptoBulkAll]
  | cons x r ih => have := part_one x; simp only [Rows.uptoBulkAll, List.length_cons]; omega
theorem slice_bulk {H : Type} (elems spare : List (DataW H)) : elems.length ≤ Rows.uptoBulk (.slice elems spare) := by
  have h1 := length_bulk elems
  simp only [Rows.uptoBulk]
  omega
theorem bound {H : Type} {l : List (DataW H)} (hk : Rows.uptoSmall H l = true) : Rows.uptoBulkAll l ≤ 1048576 := of_decide_eq_true hk
theorem string_bulk {H : Type} (bytes : List UInt8) : bytes.length ≤ Rows.uptoBulk (DataW.lit (H := H) (.string bytes)) := by
  simp [Rows.uptoBulk]
theorem bulk_row {H : Type} {d : DataW H} {p r : List MemPlace} {len cap : Nat} {zs : List Int} {k : IntKind} (hx : (d, p) = (DataW.slice (lits k (zs.take len)) (lits k (zs.drop len)), r)) (hz : zs.length = cap) (hl : len ≤ cap) : len ≤ Rows.uptoBulk d := by
  obtain ⟨rfl, _⟩ := Prod.mk.inj hx
  have := slice_bulk (H := H) (lits k (zs.take len)) (lits k (zs.drop len))
  have hl2 : (lits (H := H) k (zs.take len)).length = len := by simp [lits]; omega
  rw [hl2] at this
  exact this
end Go.Proofs.Ytnamanalacjhnaa
