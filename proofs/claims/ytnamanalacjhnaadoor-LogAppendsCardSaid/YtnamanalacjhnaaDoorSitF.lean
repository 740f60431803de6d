/- What holds along a law's walk over two lent lists: their room, the lists, the table (this claim's own lemmas). -/
import Derived.Test.YtnamanalacjhnaaDoorRoomC
namespace Go.Proofs.YtnamanalacjhnaaDoor.Room
open Go.RowKit Go.Proofs.YtnamanalacjhnaaDoorW.PrintWords Go.Proofs.YtnamanalacjhnaaDoor.Own
set_option linter.unusedVariables false
/-- w: the world at the law's begin, W: now; the room at g; the lent lists l at block b and r at block d. -/
structure Sit2 (w W : World) (g b cap : Nat) (l : List Int) (d cap2 : Nat) (r : List Int) (n m : Nat) : Prop where
  below : Below w.heap.size w W
  room : ∃ F, RoomB W w.heap.size F g [⟨b, n, cap⟩, ⟨d, m, cap2⟩] ∧ ¬ F b ∧ ¬ F d
  row : RowAt W b l
  row2 : RowAt W d r
  len : l.length = n
  len2 : r.length = m
  nb : n ≤ 140737488351232
  nb2 : m ≤ 140737488351232
  ge : w.heap.size ≤ b
  ge2 : w.heap.size ≤ d
  ne : b ≠ d
  tab : GT W
theorem Sit2.step {w W W' : World} {g b cap : Nat} {l : List Int} {d cap2 : Nat} {r : List Int} {n m : Nat} (h : Sit2 w W g b cap l d cap2 r n m) (hb : Below W.heap.size W W') : Sit2 w W' g b cap l d cap2 r n m :=
  ⟨below_then h.below h.below.size hb, by obtain ⟨F, h1, h2⟩ := h.room; exact ⟨F, h1.below hb, h2⟩, h.row.below hb, h.row2.below hb, h.len, h.len2, h.nb, h.nb2, h.ge, h.ge2, h.ne, GT.below h.tab hb⟩
theorem GT.setU8 {W : World} (h : GT W) {b : Nat} {l : List Int} (hr : RowAt W b l) (k : Nat) (v : Value) (hk : k < l.length) : GT (W.setCell ⟨b, k, none⟩ v) := fun i hi => by
  have h1 := h i hi
  by_cases hb : b = 0
  · obtain ⟨cur, h2, h3⟩ := hr
    have h4 := h 0 (by omega)
    rw [hb] at h2
    rw [blk_cell h2, h3 0 (by omega)] at h4
    simp at h4
  · have : (W.setCell ⟨b, k, none⟩ v).heap[0]? = W.heap[0]? := setCell_block (Ne.symm hb)
    rw [← h1]
    exact World.cell?_setCell_other _ _ _ _ (by intro e; exact hb (congrArg Addr.block e)) 
theorem Sit2.set {w W : World} {g b cap : Nat} {l : List Int} {d cap2 : Nat} {r : List Int} {n m : Nat} (h : Sit2 w W g b cap l d cap2 r n m) (k : Nat) (hk : k < l.length) (x : Int) : Sit2 w (W.setCell ⟨b, k, none⟩ (.int .u8 x)) g b cap (l.set k x) d cap2 r n m := by
  obtain ⟨F, h1, h2, h3⟩ := h.room
  have hl := h.len
  refine ⟨below_set h.below h.ge, ⟨F, h1.set b k _ h2 (fun e he hb => ?_), h2, h3⟩, h.row.set k hk x, ?_, by rw [List.length_set]; exact hl, h.len2, h.nb, h.nb2, h.ge, h.ge2, h.ne, GT.setU8 h.tab h.row k _ hk⟩
  · rcases List.mem_cons.1 he with rfl | he
    · simpa using (by omega : k < n)
    · obtain rfl := List.mem_singleton.1 he
      exact absurd hb h.ne
  · obtain ⟨cur, e1, e2⟩ := h.row2
    exact ⟨cur, (setCell_block (W := W) (j := k) (u := .int .u8 x) (Ne.symm h.ne)).trans e1, e2⟩
theorem Sit2.set2 {w W : World} {g b cap : Nat} {l : List Int} {d cap2 : Nat} {r : List Int} {n m : Nat} (h : Sit2 w W g b cap l d cap2 r n m) (k : Nat) (hk : k < r.length) (x : Int) : Sit2 w (W.setCell ⟨d, k, none⟩ (.int .u8 x)) g b cap l d cap2 (r.set k x) n m := by
  obtain ⟨F, h1, h2, h3⟩ := h.room
  have hl := h.len2
  refine ⟨below_set h.below h.ge2, ⟨F, h1.set d k _ h3 (fun e he hb => ?_), h2, h3⟩, ?_, h.row2.set k hk x, h.len, by rw [List.length_set]; exact hl, h.nb, h.nb2, h.ge, h.ge2, h.ne, GT.setU8 h.tab h.row2 k _ hk⟩
  · rcases List.mem_cons.1 he with rfl | he
    · exact absurd hb.symm h.ne
    · obtain rfl := List.mem_singleton.1 he
      simpa using (by omega : k < m)
  · obtain ⟨cur, e1, e2⟩ := h.row
    exact ⟨cur, (setCell_block (W := W) (j := k) (u := .int .u8 x) h.ne).trans e1, e2⟩
/-- A list of the call's own that lies apart from the lent ones. -/
def Apart (base b d : Nat) (W : World) (A : Option Addr) (n c : Nat) (l : List Int) : Prop := l.length = n ∧ Kd.R (Kd.int .u8) 5 W base (fun k => k ≠ b ∧ k ≠ d) (.slice A n c) l
theorem Apart.step {base b d : Nat} {W W' : World} {A : Option Addr} {n c : Nat} {l : List Int} (h : Apart base b d W A n c l) (hb : Below W.heap.size W W') : Apart base b d W' A n c l := ⟨h.1, Kd.R_below h.2 hb⟩
theorem Apart.set {base b d : Nat} {W : World} {A : Option Addr} {n c : Nat} {l : List Int} (h : Apart base b d W A n c l) (k : Nat) (v : Value) : Apart base b d (W.setCell ⟨b, k, none⟩ v) A n c l := ⟨h.1, Kd.R_far h.2 (p := ⟨b, k, none⟩) (fun q hq => hq.1) _⟩
theorem Apart.set2 {base b d : Nat} {W : World} {A : Option Addr} {n c : Nat} {l : List Int} (h : Apart base b d W A n c l) (k : Nat) (v : Value) : Apart base b d (W.setCell ⟨d, k, none⟩ v) A n c l := ⟨h.1, Kd.R_far h.2 (p := ⟨d, k, none⟩) (fun q hq => hq.2) _⟩
/-- Behind 'spare.Bytes(l)' of a new room: s: where the room lies; the world ahead of it: w1. -/
def One (w w1 : World) (s : Nat) (W : World) (b cap : Nat) (l : List Int) : Prop :=
  ∃ F, RoomB W w.heap.size F s [⟨b, l.length, cap⟩] ∧ (∀ k, F k → s ≤ k) ∧ ¬ F b ∧ s ≤ b ∧ w.heap.size ≤ b ∧ b < W.heap.size ∧ RowAt W b l ∧ Below w.heap.size w W ∧ (∀ k, k < s → W.heap[k]? = w1.heap[k]?) ∧ s < W.heap.size
theorem bytes_first {w w1 : World} {A0 : Option Addr} {c0 : Nat} {l : List Int} (hB : Below w.heap.size w w1) (hr : Kd.C (Kd.int .u8) w A0 l.length l) (hc : l.length ≤ c0) (hlen : l.length ≤ 140737488351232) :
    Calls Tryd.prog 9 #[.pointer (some ⟨w1.heap.size, 0, none⟩), .slice A0 l.length c0] (w1.alloc (.cells (roomCells (.slice none 0 0) (.slice none 0 0)) 40)) fun e w2 =>
      ∃ b cap, e = .returned (.slice (some ⟨b, 0, none⟩) l.length (l.length + 600)) ∧ One w w1 w1.heap.size w2 b cap l := by
  have hB1 : Below w1.heap.size w1 (w1.alloc (.cells (roomCells (.slice none 0 0) (.slice none 0 0)) 40)) := below_alloc (Below.refl _ _) _
  have hBW := below_then hB hB.size hB1
  have hs : (w1.alloc (.cells (roomCells (.slice none 0 0) (.slice none 0 0)) 40)).heap.size = w1.heap.size + 1 := by simp
  refine (bytes_calls A0 c0 l _ w.heap.size (fun k => k = w1.heap.size) w1.heap.size [] (room_new w1 w.heap.size hB.size) (by simp) (Kd.C_below hr hBW) hc hlen).mono ?_
  rintro e w2 ⟨b, cap, rfl, hb, hR2, hrow, hB2, hfr⟩
  have h1 := hB.size
  have h2 := hB2.size
  refine ⟨b, cap, rfl, _, hR2, ?_, by omega, by omega, by omega, ?_, hrow, hBW.trans hB2, ?_, by omega⟩
  · rintro k (rfl | ⟨hk, _⟩) <;> omega
  · obtain ⟨cur, hcur, _⟩ := hrow
    exact blk_lt hcur
  · intro k hk
    rw [hfr k (by omega) (by omega)]
    exact hB1.block k hk
theorem RoomB.bound {W : World} {base : Nat} {F : Nat → Prop} {g : Nat} {es : List Ent} (h : RoomB W base F g es) : RoomB W base (fun k => F k ∧ k < W.heap.size) g es := by
  obtain ⟨va, vb, h1, h2, h3, h4, h5, h6, h7, h8⟩ := h
  exact ⟨va, vb, h1, ⟨h2, blk_lt h1⟩, fun k hk => h3 k hk.1, fun k hk => ⟨h4 k hk, own_lt h6 k hk⟩, fun k hk => ⟨h5 k hk, own_lt h7 k hk⟩, h6, h7, h8⟩
theorem bytes_second {w w1 W : World} {s b cap : Nat} {l : List Int} {A1 : Option Addr} {c1 : Nat} {r : List Int} (h : One w w1 s W b cap l) (hr : Kd.C (Kd.int .u8) w A1 r.length r) (hc : r.length ≤ c1) (hlen : l.length ≤ 140737488351232) (hlen2 : r.length ≤ 140737488351232) (hT : GT w) :
    Calls Tryd.prog 9 #[.pointer (some ⟨s, 0, none⟩), .slice A1 r.length c1] W fun e w3 =>
      ∃ d cap2, e = .returned (.slice (some ⟨d, 0, none⟩) r.length (r.length + 600)) ∧ Sit2 w w3 s b cap l d cap2 r l.length r.length ∧ (∀ k, k < s → w3.heap[k]? = w1.heap[k]?) ∧ s ≤ b ∧ s ≤ d := by
  obtain ⟨F, hR, hF, hFb, hsb, hwb, hbW, hrow, hBW, hfr, hsW⟩ := h
  refine (bytes_calls A1 c1 r _ w.heap.size (fun k => F k ∧ k < W.heap.size) s _ hR.bound (by simp) (Kd.C_below hr hBW) hc hlen2).mono ?_
  rintro e w3 ⟨d, cap2, rfl, hd, hR2, hrow2, hB2, hfr2⟩
  have hsz := hBW.size
  obtain ⟨cur, e1, e2⟩ := hrow
  refine ⟨d, cap2, rfl, ⟨hBW.trans hB2, ⟨_, hR2, ?_, ?_⟩, ⟨cur, (hfr2 b hbW (fun h => hFb h.1)).trans e1, e2⟩, hrow2, rfl, rfl, hlen, hlen2, hwb, by omega, by omega, GT.below hT (hBW.trans hB2)⟩, ?_, hsb, by omega⟩
  · rintro (h | ⟨h, _⟩)
    · exact hFb h.1
    · omega
  · rintro (h | ⟨_, h⟩)
    · have := h.2; omega
    · exact h rfl
  · intro k hk
    rw [hfr2 k (by omega) (fun h => by have := hF k h.1; omega)]
    exact hfr k hk
/-- A list that was made ahead of the room lies apart. -/
theorem apart_of {w w1 w3 : World} {s b d : Nat} {A : Option Addr} {n c : Nat} {l : List Int} (h : Kd.R (Kd.int .u8) 5 w1 w.heap.size (fun _ => True) (.slice A n c) l) (hs : s = w1.heap.size) (hfr : ∀ k, k < s → w3.heap[k]? = w1.heap[k]?) (hb : s ≤ b) (hd : s ≤ d) (hl : l.length = n) : Apart w.heap.size b d w3 A n c l :=
  ⟨hl, Kd.R_mono (Kd.R_step (Kd.R_bound h) (fun k hk hlt => hfr k (by omega))) (fun k hk => by have := hk.2.2.1; exact ⟨by omega, by omega⟩)⟩
end Go.Proofs.YtnamanalacjhnaaDoor.Room
