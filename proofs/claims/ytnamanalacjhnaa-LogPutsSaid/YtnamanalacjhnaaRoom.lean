/- The room of marks behind copies that are handed out: what its functions do (this claim's own lemmas). -/
import Derived.Test.YtnamanalacjhnaaOwn
import Derived.OrdersHeld
import Derived.Outline
import Derived.WalkSpells
namespace Go.Proofs.Ytnamanalacjhnaa.Room
open Go.RowKit Go.Proofs.YtnamanalacjhnaaW.PrintWords Go.Proofs.Ytnamanalacjhnaa.Own
set_option linter.unusedVariables false
theorem info_u8 : (Try.prog.info? 5).map (fun i => (i.zero, i.size, i.bytes)) = some (some (.int .u8 0), 1, 1) := by kernel_rfl
theorem info_int : (Try.prog.info? 3).map (fun i => (i.zero, i.size, i.bytes)) = some (some (.int .i64 0), 1, 8) := by kernel_rfl
theorem info_bytes : (Try.prog.info? 45).map (fun i => (i.zero, i.size, i.bytes)) = some (some (.slice none 0 0), 1, 24) := by kernel_rfl

/-- The mark number k, as a byte. -/
def lotb (k : Nat) : Int := if k % 2 = 0 then 235 else 234
def loti (k : Nat) : Int := if k % 2 = 0 then -7701 else -7702
theorem lot_calls (k : Nat) (w : World) (hk : k ≤ 9223372036854775807) : Calls Try.prog 50 #[.int .i64 (k : Int)] w fun e w' => e = .returned (.int .i64 (loti k)) ∧ w' = w := by
  by_cases h : k % 2 = 0
  · have h1 : ((k : Int) % 2 == 0) = true := by rw [beq_iff_eq]; omega
    have h2 : loti k = -7701 := by simp [loti, h]
    rw [h2]
    clear h h2
    go_enter Try.func50, Try.ntmps50
    go_wp2
    go_ret
    exact ⟨rfl, rfl⟩
  · have h1 : ((k : Int) % 2 == 0) = false := by rw [beq_eq_false_iff_ne]; omega
    have h2 : loti k = -7702 := by simp [loti, h]
    rw [h2]
    clear h h2
    go_enter Try.func50, Try.ntmps50
    go_wp2
    go_ret
    exact ⟨rfl, rfl⟩
theorem lot_byte (k : Nat) : loti k % 256 = lotb k := by
  unfold loti lotb
  split <;> rfl

/-- A list that was handed out: its block, its length, its capacity. -/
structure Ent where
  b : Nat
  n : Nat
  cap : Nat
def EntOk (W : World) (e : Ent) : Prop := ∃ cur : Array Value, W.heap[e.b]? = some (.cells cur 5 (0, 0)) ∧ e.n + 600 ≤ cur.size ∧ e.n + 600 ≤ e.cap ∧ e.n ≤ 140737488351232 ∧ ∀ k, k < 600 → cur[e.n + k]? = some (.int .u8 (lotb k))
def roomCells (va vb : Value) : Array Value := #[va, vb, .slice none 0 0, .slice none 0 0, .slice none 0 0, .slice none 0 0, .slice none 0 0, .slice none 0 0, .slice none 0 0, .slice none 0 0, .slice none 0 0, .slice none 0 0, .slice none 0 0, .slice none 0 0, .slice none 0 0, .slice none 0 0, .slice none 0 0, .slice none 0 0, .slice none 0 0, .slice none 0 0, .slice none 0 0, .slice none 0 0, .slice none 0 0, .slice none 0 0, .slice none 0 0, .slice none 0 0, .slice none 0 0, .slice none 0 0]
def entVal (e : Ent) : Value := .slice (some ⟨e.b, 0, none⟩) (e.n + 600) e.cap
def entNum (e : Ent) : Value := .int .i64 (e.n : Int)
/-- The room at block g, its own blocks those of F, what it handed out. -/
def RoomB (W : World) (base : Nat) (F : Nat → Prop) (g : Nat) (es : List Ent) : Prop :=
  ∃ va vb : Value, W.heap[g]? = some (.cells (roomCells va vb) 42 (0, 0)) ∧ F g ∧ (∀ k, F k → base ≤ k) ∧ (∀ k, va.ownBlock = some k → F k) ∧ (∀ k, vb.ownBlock = some k → F k) ∧
    W.ownsRow base 45 1 va es.length (es.map entVal) ∧ W.ownsRow base 3 1 vb es.length (es.map entNum) ∧ (∀ e ∈ es, EntOk W e)
theorem EntOk.below {W W' : World} {e : Ent} (h : EntOk W e) (hb : Below W.heap.size W W') : EntOk W' e := by
  obtain ⟨cur, h1, h2⟩ := h
  exact ⟨cur, (hb.block _ (blk_lt h1)).trans h1, h2⟩
theorem RoomB.below {W W' : World} {base : Nat} {F : Nat → Prop} {g : Nat} {es : List Ent} (h : RoomB W base F g es) (hb : Below W.heap.size W W') : RoomB W' base F g es := by
  obtain ⟨va, vb, h1, h2, h3, h4, h5, h6, h7, h8⟩ := h
  exact ⟨va, vb, (hb.block _ (blk_lt h1)).trans h1, h2, h3, h4, h5, pw_own_below h6 hb, pw_own_below h7 hb, fun e he => (h8 e he).below hb⟩
theorem RoomB.drewN {W : World} {base : Nat} {F : Nat → Prop} {g : Nat} {es : List Ent} (h : RoomB W base F g es) (n : Nat) : RoomB (W.drewN n) base F g es := h
end Go.Proofs.Ytnamanalacjhnaa.Room
