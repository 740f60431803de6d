/- What holds along a law's walk over one lent list (this claim's own lemmas). -/
import Derived.Test.YtnamanalacjhnaaOne
import Derived.Test.YtnamanalacjhnaaWk
namespace Go.Proofs.Ytnamanalacjhnaa.Room
open Go.RowKit Go.Proofs.YtnamanalacjhnaaW.PrintWords Go.Proofs.Ytnamanalacjhnaa.Own Go.Proofs.Ytnamanalacjhnaa.Wk
set_option linter.unusedVariables false
theorem One.step {w w1 : World} {s : Nat} {W W' : World} {b cap : Nat} {l : List Int} (h : One w w1 s W b cap l) (hb : Below W.heap.size W W') : One w w1 s W' b cap l := by
  obtain ⟨F, h1, h2, h3, h4, h5, h6, h7, h8, h9, h10⟩ := h
  have hs := hb.size
  exact ⟨F, h1.below hb, h2, h3, h4, h5, by omega, h7.below hb, below_then h8 h8.size hb, fun k hk => (hb.block k (by omega)).trans (h9 k hk), by omega⟩
theorem One.bel {w w1 : World} {s : Nat} {W : World} {b cap : Nat} {l : List Int} (h : One w w1 s W b cap l) : Below w.heap.size w W := by
  obtain ⟨F, h1, h2, h3, h4, h5, h6, h7, h8, h9, h10⟩ := h
  exact h8
theorem One.rd {w w1 : World} {s : Nat} {W : World} {b cap : Nat} {l : List Int} (h : One w w1 s W b cap l) (hl : l.length ≤ 140737488351232) : Rd (Kd.int .u8) W (some ⟨b, 0, none⟩) l.length (l.length + 600) l := by
  obtain ⟨F, h1, h2, h3, h4, h5, h6, h7, h8, h9, h10⟩ := h
  exact ⟨rfl, by omega, h7.reads hl⟩
theorem One.room {w w1 : World} {s : Nat} {W : World} {b cap : Nat} {l : List Int} (h : One w w1 s W b cap l) : ∃ F, RoomB W w.heap.size F s [⟨b, l.length, cap⟩] ∧ ¬ F b := by
  obtain ⟨F, h1, h2, h3, h4, h5, h6, h7, h8, h9, h10⟩ := h
  exact ⟨F, h1, h3⟩
end Go.Proofs.Ytnamanalacjhnaa.Room
