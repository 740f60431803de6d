/- What holds along a law's walk over one lent list (this claim's own lemmas). -/
import Derived.Test.YtnamanalacjhnaaRoomC
import Derived.Test.YtnamanalacjhnaaWk
namespace Go.Proofs.Ytnamanalacjhnaa.Room
open Go.RowKit Go.Proofs.YtnamanalacjhnaaW.PrintWords Go.Proofs.Ytnamanalacjhnaa.Own Go.Proofs.Ytnamanalacjhnaa.Wk
set_option linter.unusedVariables false
/-- Behind 'spare.Bytes(l)' of a new room: s: where the room lies; the world ahead of it: w1. -/
def One (w w1 : World) (s : Nat) (W : World) (b cap : Nat) (l : List Int) : Prop :=
  ∃ F, RoomB W w.heap.size F s [⟨b, l.length, cap⟩] ∧ (∀ k, F k → s ≤ k) ∧ ¬ F b ∧ s ≤ b ∧ w.heap.size ≤ b ∧ b < W.heap.size ∧ RowAt W b l ∧ Below w.heap.size w W ∧ (∀ k, k < s → W.heap[k]? = w1.heap[k]?) ∧ s < W.heap.size
theorem bytes_first {w w1 : World} {A0 : Option Addr} {c0 : Nat} {l : List Int} (hB : Below w.heap.size w w1) (hr : Kd.C (Kd.int .u8) w A0 l.length l) (hc : l.length ≤ c0) (hlen : l.length ≤ 140737488351232) :
    Calls Try.prog 13 #[.pointer (some ⟨w1.heap.size, 0, none⟩), .slice A0 l.length c0] (w1.alloc (.cells (roomCells (.slice none 0 0) (.slice none 0 0)) 42)) fun e w2 =>
      ∃ b cap, e = .returned (.slice (some ⟨b, 0, none⟩) l.length (l.length + 600)) ∧ One w w1 w1.heap.size w2 b cap l := by
  have hB1 : Below w1.heap.size w1 (w1.alloc (.cells (roomCells (.slice none 0 0) (.slice none 0 0)) 42)) := below_alloc (Below.refl _ _) _
  have hBW := below_then hB hB.size hB1
  have hs : (w1.alloc (.cells (roomCells (.slice none 0 0) (.slice none 0 0)) 42)).heap.size = w1.heap.size + 1 := by simp
  refine (bytes_calls A0 c0 l _ w.heap.size (fun k => k = w1.heap.size) w1.heap.size [] (room_new w1 w.heap.size hB.size) (by simp) (Kd.C_below hr hBW) hc hlen).mono ?_
  rintro e w2 ⟨b, cap, rfl, hb, hR2, hrow, hB2, hfr⟩
  have h1 := hB.size
  have h2 := hB2.size
  refine ⟨b, cap, rfl, _, hR2, ?_, by omega, by omega, by omega, ?_, hrow, hBW.trans hB2, ?_, by omega⟩
  · rintro k (rfl | ⟨hk, _⟩) <;> omega
  · obtain ⟨cur, hcur, _⟩ := hrow
    exact blk_lt hcur
  · intro k hk
    rw [hfr k (by omega) (by omega)]
    exact hB1.block k hk
theorem RoomB.bound {W : World} {base : Nat} {F : Nat → Prop} {g : Nat} {es : List Ent} (h : RoomB W base F g es) : RoomB W base (fun k => F k ∧ k < W.heap.size) g es := by
  obtain ⟨va, vb, h1, h2, h3, h4, h5, h6, h7, h8⟩ := h
  exact ⟨va, vb, h1, ⟨h2, blk_lt h1⟩, fun k hk => h3 k hk.1, fun k hk => ⟨h4 k hk, own_lt h6 k hk⟩, fun k hk => ⟨h5 k hk, own_lt h7 k hk⟩, h6, h7, h8⟩
end Go.Proofs.Ytnamanalacjhnaa.Room
