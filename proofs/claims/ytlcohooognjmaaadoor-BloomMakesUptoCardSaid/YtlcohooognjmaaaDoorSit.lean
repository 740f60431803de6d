/- What holds along a law's walk: the lent list, its room, a copy that is kept (this claim's own lemmas). -/
import Derived.Test.YtlcohooognjmaaaDoorRoomC
namespace Go.Proofs.YtlcohooognjmaaaDoor.Room
open Go.RowKit Go.Proofs.YtlcohooognjmaaaDoorW.PrintWords Go.Proofs.YtlcohooognjmaaaDoor.Own
set_option linter.unusedVariables false
/-- w: the world at the law's begin, W: now; the room at g; the lent list l at block b (n long); a copy lk of the call's own. -/
structure Sit (w W : World) (g b n cap : Nat) (l : List Int) (Ak : Option Addr) (ck : Nat) (lk : List Int) : Prop where
  below : Below w.heap.size w W
  room : ∃ F, RoomB W w.heap.size F g [⟨b, n, cap⟩] ∧ ¬ F b
  row : RowAt W b l
  len : l.length = n
  nb : n ≤ 140737488351232
  ge : w.heap.size ≤ b
  kept : Kd.R (Kd.int .u8) 5 W w.heap.size (fun k => k ≠ b) (.slice Ak lk.length ck) lk
theorem Sit.step {w W W' : World} {g b n cap : Nat} {l : List Int} {Ak : Option Addr} {ck : Nat} {lk : List Int} (h : Sit w W g b n cap l Ak ck lk) (hb : Below W.heap.size W W') : Sit w W' g b n cap l Ak ck lk :=
  ⟨below_then h.below h.below.size hb, by obtain ⟨F, h1, h2⟩ := h.room; exact ⟨F, h1.below hb, h2⟩, h.row.below hb, h.len, h.nb, h.ge, Kd.R_below h.kept hb⟩
theorem Sit.reads {w W : World} {g b n cap : Nat} {l : List Int} {Ak : Option Addr} {ck : Nat} {lk : List Int} (h : Sit w W g b n cap l Ak ck lk) : Kd.C (Kd.int .u8) W (some ⟨b, 0, none⟩) l.length l := h.row.reads (by have := h.len; have := h.nb; omega)
theorem Sit.keeps {w W : World} {g b n cap : Nat} {l : List Int} {Ak : Option Addr} {ck : Nat} {lk : List Int} (h : Sit w W g b n cap l Ak ck lk) : Kd.C (Kd.int .u8) W Ak lk.length lk := (Kd.R_reads' h.kept).2.2
theorem Sit.set {w W : World} {g b n cap : Nat} {l : List Int} {Ak : Option Addr} {ck : Nat} {lk : List Int} (h : Sit w W g b n cap l Ak ck lk) (k : Nat) (hk : k < l.length) (x : Int) : Sit w (W.setCell ⟨b, k, none⟩ (.int .u8 x)) g b n cap (l.set k x) Ak ck lk := by
  obtain ⟨F, h1, h2⟩ := h.room
  exact ⟨below_set h.below h.ge, ⟨F, h1.set b k _ h2 (fun e he hb => by obtain rfl := List.mem_singleton.1 he; have := h.len; simpa using (by omega : k < n)), h2⟩, h.row.set k hk x, by rw [List.length_set]; exact h.len, h.nb, h.ge, Kd.R_far h.kept (p := ⟨b, k, none⟩) (fun q hq => hq) _⟩
/-- 'spare.Bytes(l)' of a new room, behind a copy that is kept. -/
theorem bytes_new {w w1 : World} {A0 : Option Addr} {c0 : Nat} {l : List Int} {Ak : Option Addr} {ck : Nat} (hB : Below w.heap.size w w1) (hr : Kd.C (Kd.int .u8) w A0 l.length l) (hc : l.length ≤ c0) (hlen : l.length ≤ 140737488351232)
    (hK : Kd.R (Kd.int .u8) 5 w1 w.heap.size (fun _ => True) (.slice Ak l.length ck) l) :
    Calls Tryd.prog 13 #[.pointer (some ⟨w1.heap.size, 0, none⟩), .slice A0 l.length c0] (w1.alloc (.cells (roomCells (.slice none 0 0) (.slice none 0 0)) 40)) fun e w2 =>
      ∃ b cap, e = .returned (.slice (some ⟨b, 0, none⟩) l.length (l.length + 600)) ∧ Sit w w2 w1.heap.size b l.length cap l Ak ck l := by
  have hB1 : Below w1.heap.size w1 (w1.alloc (.cells (roomCells (.slice none 0 0) (.slice none 0 0)) 40)) := below_alloc (Below.refl _ _) _
  have hBW := below_then hB hB.size hB1
  have hs : (w1.alloc (.cells (roomCells (.slice none 0 0) (.slice none 0 0)) 40)).heap.size = w1.heap.size + 1 := by simp
  have hK1 : Kd.R (Kd.int .u8) 5 (w1.alloc (.cells (roomCells (.slice none 0 0) (.slice none 0 0)) 40)) w.heap.size (fun k => k < w1.heap.size) (.slice Ak l.length ck) l := Kd.R_mono (Kd.R_below (Kd.R_bound hK) hB1) (fun k hk => hk.2.2.1)
  refine (bytes_calls A0 c0 l _ w.heap.size (fun k => k = w1.heap.size) w1.heap.size [] (room_new w1 w.heap.size hB.size) (by simp) (Kd.C_below hr hBW) hc hlen).mono ?_
  rintro e w2 ⟨b, cap, rfl, hb, hR2, hrow, hB2, hfr⟩
  have h1 := hB.size
  exact ⟨b, cap, rfl, hBW.trans hB2, ⟨_, hR2, by omega⟩, hrow, rfl, hlen, by omega, Kd.R_mono (Kd.R_step hK1 (fun k hk hlt => hfr k hlt (by omega))) (fun k hk => by omega)⟩
end Go.Proofs.YtlcohooognjmaaaDoor.Room
