/- The room's copy of groups with marks behind it (plain lemmas; this claim's own). -/
import Derived.Test.YtnamanalacjhnaaRoomH
import Derived.Test.YtnamanalacjhnaaWk
import Derived.Test.YtnamanalacjhnaaQPtx0
namespace Go.Proofs.Ytnamanalacjhnaa.RmG
open Go.RowKit Go.Proofs.YtnamanalacjhnaaW.PrintWords Go.Proofs.Ytnamanalacjhnaa.Own Go.Proofs.Ytnamanalacjhnaa.Wk
set_option linter.unusedVariables false
abbrev Wr := QPt.S64
abbrev kW : Kd Wr := QPt.k64
abbrev kWs : Kd (List Wr) := Kd.slice 64 kW
theorem info_int : (Try.prog.info? 3).map (fun i => (i.zero, i.size, i.bytes)) = some (some (.int .i64 0), 1, 8) := by kernel_rfl
theorem infoW : (Try.prog.info? 64).map (fun i => (i.zero, i.size, i.bytes)) = some (some (.agg #[(.string ⟨#[]⟩), (.bool false), (.string ⟨#[]⟩)]), 3, 40) := by kernel_rfl
theorem info_ws : (Try.prog.info? 62).map (fun i => (i.zero, i.size, i.bytes)) = some (some (.slice none 0 0), 1, 24) := by kernel_rfl
theorem info_gs : (Try.prog.info? 24).map (fun i => (i.zero, i.size, i.bytes)) = some (some (.slice none 0 0), 1, 24) := by kernel_rfl
/-- The mark number k, as a text. -/
def wordS (k : Nat) : ByteArray := if k % 2 = 0 then ⟨#[60, 111, 110, 101, 62]⟩ else ⟨#[60, 116, 119, 111, 62]⟩
def markW (k : Nat) : Wr := ⟨wordS k, false, (⟨#[]⟩ : ByteArray)⟩
def marksW (k : Nat) : List Wr := (List.range k).map markW
theorem marksW_succ (k : Nat) : marksW (k + 1) = marksW k ++ [markW k] := by simp [marksW, List.range_succ]
theorem marksW_len (k : Nat) : (marksW k).length = k := by simp [marksW]
theorem word_calls (k : Nat) (w : World) (hk : k ≤ 9223372036854775807) : Calls Try.prog 47 #[.int .i64 (k : Int)] w fun e w' => e = .returned (.string (wordS k)) ∧ w' = w := by
  by_cases h : k % 2 = 0
  · have h1 : ((k : Int) % 2 == 0) = true := by rw [beq_iff_eq]; omega
    have h2 : wordS k = ⟨#[60, 111, 110, 101, 62]⟩ := by simp [wordS, h]
    rw [h2]
    clear h h2
    go_enter Try.func47, Try.ntmps47
    go_wp2
    go_ret
    exact ⟨rfl, rfl⟩
  · have h1 : ((k : Int) % 2 == 0) = false := by rw [beq_eq_false_iff_ne]; omega
    have h2 : wordS k = ⟨#[60, 116, 119, 111, 62]⟩ := by simp [wordS, h]
    rw [h2]
    clear h h2
    go_enter Try.func47, Try.ntmps47
    go_wp2
    go_ret
    exact ⟨rfl, rfl⟩
theorem word_calls' (a : Int) (k : Nat) (h : a = (k : Int)) (w : World) (hk : k ≤ 9223372036854775807) : Calls Try.prog 47 #[.int .i64 a] w fun e w' => e = .returned (.string (wordS k)) ∧ w' = w := by
  subst h
  exact word_calls k w hk
/-- A list that was handed out: its block, its capacity, what it holds. -/
structure Ent where
  b : Nat
  cap : Nat
  l : List Wr
/-- The full list, as it lies in the room; the list that was lent. -/
def full (e : Ent) : Value := .slice (some ⟨e.b, 0, none⟩) (e.l.length + 4) e.cap
def lent (e : Ent) : Value := .slice (some ⟨e.b, 0, none⟩) e.l.length (e.l.length + 4)
def num (e : Ent) : Value := .int .i64 (e.l.length : Int)
def EntOk (W : World) (base : Nat) (e : Ent) : Prop := kW.R 64 W base (fun _ => True) (full e) (e.l ++ marksW 4)
def roomCells (vw va vg vga : Value) : Array Value := #[.slice none 0 0, .slice none 0 0, .slice none 0 0, .slice none 0 0, .slice none 0 0, .slice none 0 0, .slice none 0 0, .slice none 0 0, .slice none 0 0, .slice none 0 0, .slice none 0 0, .slice none 0 0, vw, va, .slice none 0 0, .slice none 0 0, .slice none 0 0, .slice none 0 0, .slice none 0 0, .slice none 0 0, .slice none 0 0, .slice none 0 0, vg, vga, .slice none 0 0, .slice none 0 0, .slice none 0 0, .slice none 0 0]
/-- The room at block g, its own blocks those of F, the writes that it handed out. -/
def RoomB (W : World) (base : Nat) (F : Nat → Prop) (g : Nat) (es : List Ent) : Prop :=
  ∃ va vb : Value, W.heap[g]? = some (.cells (roomCells va vb (.slice none 0 0) (.slice none 0 0)) 42 (0, 0)) ∧ F g ∧ (∀ k, F k → base ≤ k) ∧ (∀ k, va.ownBlock = some k → F k) ∧ (∀ k, vb.ownBlock = some k → F k) ∧
    W.ownsRow base 62 1 va es.length (es.map full) ∧ W.ownsRow base 3 1 vb es.length (es.map num) ∧ (∀ e ∈ es, EntOk W base e)
theorem typed_move {W W' : World} {base : Nat} {v : Value} {l : List Wr} (h : kW.R 64 W base (fun _ => True) v l) (hm : ∀ (k : Nat) (cs : Array Value), W.heap[k]? = some (.cells cs 64 (0, 0)) → W'.heap[k]? = W.heap[k]?) : kW.R 64 W' base (fun _ => True) v l := by
  refine Kd.R_mono (Kd.R_move (Kd.R_bound h) (fun k hk => ?_)) (fun _ _ => trivial)
  obtain ⟨_, _, _, q, hq, cs, hc⟩ := hk
  have : q = 64 := by
    rcases List.mem_cons.1 hq with h | h
    · exact h
    · have hE : kW.E = [] := rfl
      rw [hE] at h
      exact absurd h List.not_mem_nil
  subst this
  exact hm k cs hc
theorem EntOk.below {W W' : World} {base : Nat} {e : Ent} (h : EntOk W base e) (hb : Below W.heap.size W W') : EntOk W' base e := Kd.R_below h hb
theorem RoomB.below {W W' : World} {base : Nat} {F : Nat → Prop} {g : Nat} {es : List Ent} (h : RoomB W base F g es) (hb : Below W.heap.size W W') : RoomB W' base F g es := by
  obtain ⟨va, vb, h1, h2, h3, h4, h5, h6, h7, h8⟩ := h
  exact ⟨va, vb, (hb.block _ (blk_lt h1)).trans h1, h2, h3, h4, h5, pw_own_below h6 hb, pw_own_below h7 hb, fun e he => (h8 e he).below hb⟩
theorem RoomB.bound {W : World} {base : Nat} {F : Nat → Prop} {g : Nat} {es : List Ent} (h : RoomB W base F g es) : RoomB W base (fun k => F k ∧ k < W.heap.size) g es := by
  obtain ⟨va, vb, h1, h2, h3, h4, h5, h6, h7, h8⟩ := h
  exact ⟨va, vb, h1, ⟨h2, blk_lt h1⟩, fun k hk => h3 k hk.1, fun k hk => ⟨h4 k hk, own_lt h6 k hk⟩, fun k hk => ⟨h5 k hk, own_lt h7 k hk⟩, h6, h7, h8⟩
/-- Another list of lists grows. -/
theorem RoomB.grown {W W' : World} {base base' : Nat} {F : Nat → Prop} {g : Nat} {es : List Ent} (h : RoomB W base F g es) {v : Value} {n : Nat} {xs : List Value} (ho : W.ownsRow base' 62 1 v n xs) (hg : W.grownBy W' v.ownBlock) (hF : ∀ k, v.ownBlock = some k → ¬ F k) : RoomB W' base F g es := by
  obtain ⟨va, vb, h1, h2, h3, h4, h5, h6, h7, h8⟩ := h
  refine ⟨va, vb, blk_grown h1 hg (own_ne ho h1 (by decide)), h2, h3, h4, h5, own_other h6 hg ?_, own_other h7 hg (own_type_ne h7 ho (by decide)), fun e he => typed_move (h8 e he) (fun k cs hk => hg.block k (blk_lt hk) (own_ne ho hk (by decide)))⟩
  cases hv : va.ownBlock with
  | none => exact .inl rfl
  | some k => exact .inr (fun he => hF k he.symm (h4 k hv))
/-- What a copy with marks leaves. -/
def LayPost (w : World) (base : Nat) (F : Nat → Prop) (g : Nat) (es : List Ent) (l0 : List Wr) (e : Ending) (w' : World) : Prop :=
  ∃ b cap, e = .returned (.slice (some ⟨b, 0, none⟩) l0.length (l0.length + 4)) ∧ w.heap.size ≤ b ∧ RoomB w' base (fun k => F k ∨ w.heap.size ≤ k ∧ k ≠ b) g (es ++ [⟨b, cap, l0⟩]) ∧ Below base w w' ∧ (∀ k, k < w.heap.size → ¬ F k → w'.heap[k]? = w.heap[k]?)
theorem setCell_block {W : World} {g j : Nat} {u : Value} {k : Nat} (h : k ≠ g) : (W.setCell ⟨g, j, none⟩ u).heap[k]? = W.heap[k]? := Below.heap_setCell W ⟨g, j, none⟩ u k h
/-- Two rows of one room grow, one behind the other, and are stored. -/
theorem two_rows {wr w4 w5 : World} {base g i j T e1 e2 n1 n2 m1 m2 : Nat} {cs : Array Value} {va vb v4 v5 : Value} {xa xb ya yb : List Value}
    (hg : wr.heap[g]? = some (.cells cs T (0, 0))) (hbg : base ≤ g) (oa : wr.ownsRow base e1 1 va n1 xa) (ob : wr.ownsRow base e2 1 vb n2 xb) (h1 : e1 ≠ T) (h2 : e2 ≠ T) (h12 : e2 ≠ e1)
    (o4 : w4.ownsRow base e1 1 v4 m1 ya) (g4 : wr.grownBy w4 va.ownBlock) (o5 : w5.ownsRow base e2 1 v5 m2 yb) (g5 : (w4.setCell ⟨g, i, none⟩ v4).grownBy w5 vb.ownBlock) :
    (w5.setCell ⟨g, j, none⟩ v5).heap[g]? = some (.cells ((cs.setIfInBounds i v4).setIfInBounds j v5) T (0, 0)) ∧ (w5.setCell ⟨g, j, none⟩ v5).ownsRow base e1 1 v4 m1 ya ∧ (w5.setCell ⟨g, j, none⟩ v5).ownsRow base e2 1 v5 m2 yb ∧
    (∀ k, k < wr.heap.size → k ≠ g → some k ≠ va.ownBlock → some k ≠ vb.ownBlock → (w5.setCell ⟨g, j, none⟩ v5).heap[k]? = wr.heap[k]?) ∧ Below base wr (w5.setCell ⟨g, j, none⟩ v5) := by
  have nga : some g ≠ va.ownBlock := own_ne oa hg h1
  have ngb : some g ≠ vb.ownBlock := own_ne ob hg h2
  have g4h := blk_grown hg g4 nga
  have g4s := blk_set g4h i v4
  have g5h := blk_grown g4s g5 ngb
  have g5s := blk_set g5h j v5
  have sz4 := g4.size
  have sz5 : w4.heap.size ≤ w5.heap.size := by have := g5.size; simpa [World.setCell] using this
  have keep : ∀ k, k < wr.heap.size → k ≠ g → some k ≠ va.ownBlock → some k ≠ vb.ownBlock → (w5.setCell ⟨g, j, none⟩ v5).heap[k]? = wr.heap[k]? := by
    intro k hk hkg hka hkb
    rw [setCell_block hkg, g5.block k (by simp [World.setCell]; omega) hkb, setCell_block hkg, g4.block k hk hka]
  refine ⟨g5s, ?_, ?_, keep, ⟨?_, ?_, ?_, ?_, ?_⟩⟩
  · have n4 : some g ≠ v4.ownBlock := own_ne o4 g4h h1
    have o4s := own_setCell (p := ⟨g, i, none⟩) o4 n4 v4
    have obs := own_setCell (p := ⟨g, i, none⟩) (own_other ob g4 (own_type_ne ob oa h12)) ngb v4
    exact own_setCell (p := ⟨g, j, none⟩) (own_other o4s g5 (own_type_ne o4s obs (Ne.symm h12))) n4 v5
  · exact own_setCell (p := ⟨g, j, none⟩) o5 (own_ne o5 g5h h2) v5
  · simp [World.setCell, g5.os, g4.os]
  · simp [World.setCell, g5.tape, g4.tape]
  · simp [World.setCell, g5.output, g4.output]
  · simp [World.setCell]; omega
  · intro k hk
    have hkw : k < wr.heap.size := by have := blk_lt hg; omega
    exact keep k hkw (by omega) (fun h => by have := own_base oa k h.symm; omega) (fun h => by have := own_base ob k h.symm; omega)
theorem lay_done {w wr w4 w5 : World} {base : Nat} {F : Nat → Prop} {g : Nat} {es : List Ent} {va vb v4 v5 : Value} {b cap : Nat} {l0 : List Wr}
    (hg : w.heap[g]? = some (.cells (roomCells va vb (.slice none 0 0) (.slice none 0 0)) 42 (0, 0))) (hFg : F g) (hFb : ∀ k, F k → base ≤ k) (hFa : ∀ k, va.ownBlock = some k → F k) (hFv : ∀ k, vb.ownBlock = some k → F k)
    (oa : w.ownsRow base 62 1 va es.length (es.map full)) (ob : w.ownsRow base 3 1 vb es.length (es.map num)) (hes : ∀ e ∈ es, EntOk w base e)
    (hB : Below w.heap.size w wr) (hbw : w.heap.size ≤ b) (hr : kW.R 64 wr w.heap.size (fun _ => True) (.slice (some ⟨b, 0, none⟩) (l0.length + 4) cap) (l0 ++ marksW 4))
    (o4 : w4.ownsRow base 62 1 v4 (es.length + 1) (es.map full ++ [.slice (some ⟨b, 0, none⟩) (l0.length + 4) cap])) (g4 : wr.grownBy w4 va.ownBlock) (a4 : v4.ownBlock = va.ownBlock ∨ ∃ q, v4.ownBlock = some q ∧ wr.heap.size ≤ q)
    (o5 : w5.ownsRow base 3 1 v5 (es.length + 1) (es.map num ++ [.int .i64 (l0.length : Int)])) (g5 : (w4.setCell ⟨g, 12, none⟩ v4).grownBy w5 vb.ownBlock) (a5 : v5.ownBlock = vb.ownBlock ∨ ∃ q, v5.ownBlock = some q ∧ (w4.setCell ⟨g, 12, none⟩ v4).heap.size ≤ q) :
    LayPost w base F g es l0 (.returned (.slice (some ⟨b, 0, none⟩) l0.length (l0.length + 4))) (w5.setCell ⟨g, 13, none⟩ v5) := by
  have hgw := blk_lt hg
  have szr := hB.size
  have sz4 := g4.size
  have hbase : base ≤ w.heap.size := Nat.le_trans (hFb g hFg) (Nat.le_of_lt hgw)
  have hgr := (hB.block _ hgw).trans hg
  have oar := pw_own_below oa hB
  have obr := pw_own_below ob hB
  obtain ⟨t1, t2, t3, t4, t5⟩ := two_rows (j := 13) hgr (hFb g hFg) oar obr (by decide) (by decide) (by decide) o4 g4 o5 g5
  have hbl : b < wr.heap.size := by
    obtain ⟨inner, ho⟩ := Kd.R_own hr
    exact own_lt ho b (by simp [Value.ownBlock])
  have mv : ∀ (k : Nat) (cs : Array Value), wr.heap[k]? = some (.cells cs 64 (0, 0)) → (w5.setCell ⟨g, 13, none⟩ v5).heap[k]? = wr.heap[k]? := fun k cs hk => t4 k (blk_lt hk) (blk_ne hk hgr (by decide)) (own_ne oar hk (by decide)) (own_ne obr hk (by decide))
  refine ⟨b, cap, rfl, hbw, ⟨v4, v5, ?_, .inl hFg, ?_, ?_, ?_, ?_, ?_, ?_⟩, (hB.mono hbase).trans t5, ?_⟩
  · rw [t1]; rfl
  · rintro k (hk | ⟨hk, _⟩)
    · exact hFb k hk
    · omega
  · intro k hk
    rcases a4 with h | ⟨q, h, hq⟩
    · exact .inl (hFa k (h ▸ hk))
    · rw [h] at hk
      obtain rfl := Option.some.inj hk
      exact .inr ⟨by omega, by omega⟩
  · intro k hk
    rcases a5 with h | ⟨q, h, hq⟩
    · exact .inl (hFv k (h ▸ hk))
    · rw [h] at hk
      obtain rfl := Option.some.inj hk
      have : w4.heap.size ≤ q := by simpa [World.setCell] using hq
      exact .inr ⟨by omega, by omega⟩
  · simpa [full] using t2
  · simpa [num] using t3
  · intro e he
    rcases List.mem_append.1 he with he | he
    · exact typed_move ((hes e he).below hB) mv
    · obtain rfl : e = ⟨b, cap, l0⟩ := by simpa using he
      exact typed_move (Kd.R_lower hr hbase) mv
  · intro k hk hF
    exact (t4 k (by omega) (by rintro rfl; exact hF hFg) (fun h => hF (hFa k h.symm)) (fun h => hF (hFv k h.symm))).trans (hB.block k hk)
/-- A new room. -/
theorem room_new (W : World) (base : Nat) (hb : base ≤ W.heap.size) : RoomB (W.alloc (.cells (roomCells (.slice none 0 0) (.slice none 0 0) (.slice none 0 0) (.slice none 0 0)) 42)) base (fun k => k = W.heap.size) W.heap.size [] :=
  ⟨.slice none 0 0, .slice none 0 0, heap_alloc_new W _, rfl, fun k hk => by omega, fun k hk => by simp [Value.ownBlock] at hk, fun k hk => by simp [Value.ownBlock] at hk, own_nil _ _ _ _, own_nil _ _ _ _, fun e he => by simp at he⟩
end Go.Proofs.Ytnamanalacjhnaa.RmG
