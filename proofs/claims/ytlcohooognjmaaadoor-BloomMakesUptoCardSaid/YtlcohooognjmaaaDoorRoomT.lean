/- The room's copy of texts with marks behind it, and its look at them (this claim's own lemmas). -/
import Derived.Test.YtlcohooognjmaaaDoorRoomH
import Derived.Outline
import Derived.WalkSpells
namespace Go.Proofs.YtlcohooognjmaaaDoor.RoomT
open Go.RowKit Go.Proofs.YtlcohooognjmaaaDoorW.PrintWords Go.Proofs.YtlcohooognjmaaaDoor.Own
set_option linter.unusedVariables false
theorem info_str : (Tryd.prog.info? 9).map (fun i => (i.zero, i.size, i.bytes)) = some (some (.string ByteArray.empty), 1, 16) := by kernel_rfl
theorem info_int : (Tryd.prog.info? 3).map (fun i => (i.zero, i.size, i.bytes)) = some (some (.int .i64 0), 1, 8) := by kernel_rfl
theorem info_strs : (Tryd.prog.info? 22).map (fun i => (i.zero, i.size, i.bytes)) = some (some (.slice none 0 0), 1, 24) := by kernel_rfl
/-- The mark number k, as a text. -/
def wordS (k : Nat) : ByteArray := if k % 2 = 0 then ⟨#[60, 111, 110, 101, 62]⟩ else ⟨#[60, 116, 119, 111, 62]⟩
theorem word_calls (k : Nat) (w : World) (hk : k ≤ 9223372036854775807) : Calls Tryd.prog 37 #[.int .i64 (k : Int)] w fun e w' => e = .returned (.string (wordS k)) ∧ w' = w := by
  by_cases h : k % 2 = 0
  · have h1 : ((k : Int) % 2 == 0) = true := by rw [beq_iff_eq]; omega
    have h2 : wordS k = ⟨#[60, 111, 110, 101, 62]⟩ := by simp [wordS, h]
    rw [h2]
    clear h h2
    go_enter Tryd.func37, Tryd.ntmps37
    go_wp2
    go_ret
    exact ⟨rfl, rfl⟩
  · have h1 : ((k : Int) % 2 == 0) = false := by rw [beq_eq_false_iff_ne]; omega
    have h2 : wordS k = ⟨#[60, 116, 119, 111, 62]⟩ := by simp [wordS, h]
    rw [h2]
    clear h h2
    go_enter Tryd.func37, Tryd.ntmps37
    go_wp2
    go_ret
    exact ⟨rfl, rfl⟩
/-- A list that was handed out: its block, its length, its capacity. -/
structure Ent where
  b : Nat
  n : Nat
  cap : Nat
def EntOk (W : World) (e : Ent) : Prop := ∃ cur : Array Value, W.heap[e.b]? = some (.cells cur 9 (0, 0)) ∧ e.n + 40 ≤ cur.size ∧ e.n + 40 ≤ e.cap ∧ e.n ≤ 1048576 ∧ ∀ k, k < 40 → cur[e.n + k]? = some (.string (wordS k))
def roomCells (va vb : Value) : Array Value := #[.slice none 0 0, .slice none 0 0, .slice none 0 0, .slice none 0 0, .slice none 0 0, .slice none 0 0, va, vb, .slice none 0 0, .slice none 0 0, .slice none 0 0, .slice none 0 0, .slice none 0 0, .slice none 0 0, .slice none 0 0, .slice none 0 0, .slice none 0 0, .slice none 0 0, .slice none 0 0, .slice none 0 0, .slice none 0 0, .slice none 0 0, .slice none 0 0, .slice none 0 0, .slice none 0 0, .slice none 0 0, .slice none 0 0, .slice none 0 0]
def entVal (e : Ent) : Value := .slice (some ⟨e.b, 0, none⟩) (e.n + 40) e.cap
def entNum (e : Ent) : Value := .int .i64 (e.n : Int)
/-- The room at block g, its own blocks those of F, what it handed out. -/
def RoomB (W : World) (base : Nat) (F : Nat → Prop) (g : Nat) (es : List Ent) : Prop :=
  ∃ va vb : Value, W.heap[g]? = some (.cells (roomCells va vb) 40 (0, 0)) ∧ F g ∧ (∀ k, F k → base ≤ k) ∧ (∀ k, va.ownBlock = some k → F k) ∧ (∀ k, vb.ownBlock = some k → F k) ∧
    W.ownsRow base 22 1 va es.length (es.map entVal) ∧ W.ownsRow base 3 1 vb es.length (es.map entNum) ∧ (∀ e ∈ es, EntOk W e)
theorem EntOk.below {W W' : World} {e : Ent} (h : EntOk W e) (hb : Below W.heap.size W W') : EntOk W' e := by
  obtain ⟨cur, h1, h2⟩ := h
  exact ⟨cur, (hb.block _ (blk_lt h1)).trans h1, h2⟩
theorem RoomB.below {W W' : World} {base : Nat} {F : Nat → Prop} {g : Nat} {es : List Ent} (h : RoomB W base F g es) (hb : Below W.heap.size W W') : RoomB W' base F g es := by
  obtain ⟨va, vb, h1, h2, h3, h4, h5, h6, h7, h8⟩ := h
  exact ⟨va, vb, (hb.block _ (blk_lt h1)).trans h1, h2, h3, h4, h5, pw_own_below h6 hb, pw_own_below h7 hb, fun e he => (h8 e he).below hb⟩
theorem RoomB.drewN {W : World} {base : Nat} {F : Nat → Prop} {g : Nat} {es : List Ent} (h : RoomB W base F g es) (n : Nat) : RoomB (W.drewN n) base F g es := h
def marks (k : Nat) : List ByteArray := (List.range k).map wordS
theorem marks_succ (k : Nat) : marks (k + 1) = marks k ++ [wordS k] := by simp [marks, List.range_succ]
/-- The block b begins with these bytes. -/
def RowAt (W : World) (b : Nat) (l : List ByteArray) : Prop := ∃ cur : Array Value, W.heap[b]? = some (.cells cur 9 (0, 0)) ∧ ∀ j, j < l.length → cur[j]? = some (.string (l.getD j ByteArray.empty))
theorem RowAt.reads {W : World} {b : Nat} {l : List ByteArray} (h : RowAt W b l) (hl : l.length ≤ 1048576) : Kd.C Kd.string W (some ⟨b, 0, none⟩) l.length l := by
  obtain ⟨cur, h1, h2⟩ := h
  refine Kd.C_of_reads (enc := Value.string) (d := ByteArray.empty) (h1 := fun _ => rfl) ⟨rfl, by omega, fun _ => ⟨_, rfl, fun j hj => ?_⟩⟩
  rw [add_plain, cell_of_row W b j cur _ (0, 0) h1]
  exact h2 j hj
theorem RowAt.below {W W' : World} {b : Nat} {l : List ByteArray} (h : RowAt W b l) (hb : Below W.heap.size W W') : RowAt W' b l := by
  obtain ⟨cur, h1, h2⟩ := h
  exact ⟨cur, (hb.block _ (blk_lt h1)).trans h1, h2⟩
/-- What a copy with marks leaves. -/
def LayPost (w : World) (base : Nat) (F : Nat → Prop) (g : Nat) (es : List Ent) (l0 : List ByteArray) (e : Ending) (w' : World) : Prop :=
  ∃ b cap, e = .returned (.slice (some ⟨b, 0, none⟩) l0.length (l0.length + 40)) ∧ w.heap.size ≤ b ∧ RoomB w' base (fun k => F k ∨ w.heap.size ≤ k ∧ k ≠ b) g (es ++ [⟨b, l0.length, cap⟩]) ∧ RowAt w' b l0 ∧ Below base w w' ∧ (∀ k, k < w.heap.size → ¬ F k → w'.heap[k]? = w.heap[k]?)
theorem setCell_block {W : World} {g j : Nat} {u : Value} {k : Nat} (h : k ≠ g) : (W.setCell ⟨g, j, none⟩ u).heap[k]? = W.heap[k]? := Below.heap_setCell W ⟨g, j, none⟩ u k h
theorem lay_done {w wr w4 w5 : World} {base : Nat} {F : Nat → Prop} {g : Nat} {es : List Ent} {va vb v4 v5 : Value} {b cap : Nat} {cur : Array Value} {l0 : List ByteArray} (hlen : l0.length ≤ 1048576)
    (hg : w.heap[g]? = some (.cells (roomCells va vb) 40 (0, 0))) (hFg : F g) (hFb : ∀ k, F k → base ≤ k) (hFa : ∀ k, va.ownBlock = some k → F k) (hFv : ∀ k, vb.ownBlock = some k → F k)
    (oa : w.ownsRow base 22 1 va es.length (es.map entVal)) (ob : w.ownsRow base 3 1 vb es.length (es.map entNum)) (hes : ∀ e ∈ es, EntOk w e)
    (hB : Below w.heap.size w wr) (hbw : w.heap.size ≤ b) (hrow : wr.heap[b]? = some (.cells cur 9 (0, 0))) (hsz : cur.size = cap) (hcap : l0.length + 40 ≤ cap)
    (hcur : ∀ j, j < l0.length → cur[j]? = some (.string (l0.getD j ByteArray.empty))) (hmk : ∀ k, k < 40 → cur[l0.length + k]? = some (.string (wordS k)))
    (o4 : w4.ownsRow base 22 1 v4 (es.length + 1) (es.map entVal ++ [.slice (some ⟨b, 0, none⟩) (l0.length + 40) cap])) (g4 : wr.grownBy w4 va.ownBlock) (a4 : v4.ownBlock = va.ownBlock ∨ ∃ q, v4.ownBlock = some q ∧ wr.heap.size ≤ q)
    (o5 : w5.ownsRow base 3 1 v5 (es.length + 1) (es.map entNum ++ [.int .i64 (l0.length : Int)])) (g5 : (w4.setCell ⟨g, 6, none⟩ v4).grownBy w5 vb.ownBlock) (a5 : v5.ownBlock = vb.ownBlock ∨ ∃ q, v5.ownBlock = some q ∧ (w4.setCell ⟨g, 6, none⟩ v4).heap.size ≤ q) :
    LayPost w base F g es l0 (.returned (.slice (some ⟨b, 0, none⟩) l0.length (l0.length + 40))) (w5.setCell ⟨g, 7, none⟩ v5) := by
  have hgw := blk_lt hg
  have hbr := blk_lt hrow
  have hgb : g ≠ b := by omega
  have sz4 := g4.size
  have szr := hB.size
  have sz5 : w4.heap.size ≤ w5.heap.size := by have := g5.size; simpa [World.setCell] using this
  have hgr : wr.heap[g]? = some (.cells (roomCells va vb) 40 (0, 0)) := (hB.block _ hgw).trans hg
  have oar := pw_own_below oa hB
  have obr := pw_own_below ob hB
  have nga : some g ≠ va.ownBlock := own_ne oar hgr (by decide)
  have ngb : some g ≠ vb.ownBlock := own_ne obr hgr (by decide)
  have g4h : w4.heap[g]? = some (.cells (roomCells va vb) 40 (0, 0)) := blk_grown hgr g4 nga
  have g4s := blk_set g4h 6 v4
  have g5h : w5.heap[g]? = _ := blk_grown g4s g5 ngb
  have g5s := blk_set g5h 7 v5
  have lta : ∀ k, va.ownBlock = some k → k < w.heap.size := fun k hk => own_lt oa k hk
  have ltb : ∀ k, vb.ownBlock = some k → k < w.heap.size := fun k hk => own_lt ob k hk
  -- a block that is none of the room's own stays, from wr on
  have keep : ∀ k, k < wr.heap.size → k ≠ g → some k ≠ va.ownBlock → some k ≠ vb.ownBlock → (w5.setCell ⟨g, 7, none⟩ v5).heap[k]? = wr.heap[k]? := by
    intro k hk hkg hka hkb
    rw [setCell_block hkg, g5.block k (by simp [World.setCell]; omega) hkb, setCell_block hkg, g4.block k hk hka]
  have oth : ∀ k o, wr.heap[k]? = some o → k ≠ g → some k ≠ va.ownBlock → some k ≠ vb.ownBlock → (w5.setCell ⟨g, 7, none⟩ v5).heap[k]? = some o := fun k o h h1 h2 h3 => (keep k (blk_lt h) h1 h2 h3).trans h
  have hba : some b ≠ va.ownBlock := fun h => by have := lta b h.symm; omega
  have hbb : some b ≠ vb.ownBlock := fun h => by have := ltb b h.symm; omega
  have hb' := oth b _ hrow (Ne.symm hgb) hba hbb
  refine ⟨b, cap, rfl, hbw, ⟨v4, v5, ?_, .inl hFg, ?_, ?_, ?_, ?_, ?_, ?_⟩, ⟨cur, hb', hcur⟩, ⟨?_, ?_, ?_, ?_, ?_⟩, ?_⟩
  · rw [g5s]; rfl
  · rintro k (hk | ⟨hk, _⟩)
    · exact hFb k hk
    · have := hFb g hFg; omega
  · intro k hk
    rcases a4 with h | ⟨q, h, hq⟩
    · exact .inl (hFa k (h ▸ hk))
    · rw [h] at hk
      obtain rfl := Option.some.inj hk
      exact .inr ⟨by omega, by omega⟩
  · intro k hk
    rcases a5 with h | ⟨q, h, hq⟩
    · exact .inl (hFv k (h ▸ hk))
    · rw [h] at hk
      obtain rfl := Option.some.inj hk
      have : w4.heap.size ≤ q := by simpa [World.setCell] using hq
      exact .inr ⟨by omega, by omega⟩
  · have n4 : some g ≠ v4.ownBlock := own_ne o4 g4h (by decide)
    have o4s := own_setCell (p := ⟨g, 6, none⟩) o4 n4 v4
    have obs : (w4.setCell ⟨g, 6, none⟩ v4).ownsRow base 3 1 vb es.length (es.map entNum) := own_setCell (p := ⟨g, 6, none⟩) (own_other obr g4 (own_type_ne obr oar (by decide))) ngb v4
    have o45 := own_other o4s g5 (own_type_ne o4s obs (by decide))
    have n45 : some g ≠ v4.ownBlock := n4
    have := own_setCell (p := ⟨g, 7, none⟩) o45 n45 v5
    simpa [entVal] using this
  · have n5 : some g ≠ v5.ownBlock := own_ne o5 g5h (by decide)
    have := own_setCell (p := ⟨g, 7, none⟩) o5 n5 v5
    simpa [entNum] using this
  · intro e he
    rcases List.mem_append.1 he with he | he
    · obtain ⟨cu, h1, h2⟩ := (hes e he).below hB
      exact ⟨cu, oth _ _ h1 (blk_ne h1 hgr (by decide)) (fun h => own_ne oar h1 (by decide) h) (fun h => own_ne obr h1 (by decide) h), h2⟩
    · obtain rfl : e = ⟨b, l0.length, cap⟩ := by simpa using he
      exact ⟨cur, hb', by simpa [hsz] using hcap, hcap, hlen, hmk⟩
  · simp [World.setCell, g5.os, g4.os, hB.os]
  · simp [World.setCell, g5.tape, g4.tape, hB.tape]
  · simp [World.setCell, g5.output, g4.output, hB.output]
  · simp [World.setCell]; omega
  · intro k hk
    have : ¬ F k → _ := fun h => h
    by_cases hkw : k < w.heap.size
    · exact (keep k (by omega) (by rintro rfl; have := hFb _ hFg; omega) (fun h => by have := hFb k (hFa k h.symm); omega) (fun h => by have := hFb k (hFv k h.symm); omega)).trans (hB.block k hkw)
    · have := hFb g hFg; omega
  · intro k hk hF
    exact (keep k (by omega) (by rintro rfl; exact hF hFg) (fun h => hF (hFa k h.symm)) (fun h => hF (hFv k h.symm))).trans (hB.block k hk)
set_option maxHeartbeats 1000000 in
set_option maxRecDepth 100000 in
theorem layTexts_calls (A0 : Option Addr) (c0 : Nat) (l0 : List ByteArray) (w : World) (base : Nat) (F : Nat → Prop) (g : Nat) (es : List Ent) (hR : RoomB w base F g es) (hes : es.length ≤ 1000)
    (hr0 : Kd.C Kd.string w A0 l0.length l0) (hc0 : l0.length ≤ c0) (hlen : l0.length ≤ 1048576) :
    Calls Tryd.prog 18 #[.pointer (some ⟨g, 0, none⟩), .slice A0 l0.length c0, .int .i64 40] w (LayPost w base F g es l0) := by
  have HR0 := Aside0.mk hr0
  have HR := Aside0.mk hR
  have HB := Aside0.mk (Below.refl w.heap.size w)
  clear hr0 hR
  go_enter Tryd.func18, Tryd.ntmps18
  go_wp2_with (first
    | ((with_reducible refine gate_dst (N := 9) rfl ?_); go_must (refine Kd.R_lit Kd.string w.heap.size 9 ?hg (N := 9) ?hd (xs := ([] : List ByteArray)) (inner := []) (ok := fun _ => True) (okp := fun _ => True) ?hr ?hp (fun _ hk => hk) trivial HB.out (Nat.le_refl _) (by simp) ?_); (case hd => rfl); (case hg => rfl); (case hr => first | (go_simp; done) | (go_simp; rfl)); (case hp => exact Reps.none _ _); intro v1 w1 ho hb hg_ hn_; clear HB; (have HO1 := Aside0.mk ho); (have HB := Aside0.mk hb); clear ho hb hg_ hn_)
    | ((with_reducible refine gate_builtin (b := .append) (xs := #[.tmp 10, .tmp 11]) rfl ?_); at_builtin; go_must (refine Kd.R_append_rows Kd.string (w0 := w) w.heap.size rfl (.tmp 10) (.tmp 11) 22 9 (.string ByteArray.empty) 16 rfl Tryd.underlying22 info_str rfl (by decide) (by omega) v1 ([] : List ByteArray) l0 _ _ _ (fun _ => True) (fun _ => False) rfl rfl ?aO ?aR (fun _ _ h => h) (fun _ h => h.elim) (fun _ _ => trivial) HB.out HB.out.size ?aL ?_); (case aR => exact Kd.C_below HR0.out HB.out); (case aO => exact HO1.out); (case aL => simp; omega); intro v2 w2 ho hb hg_ hn_; clear HB HO1; (have HO2 := Aside0.mk ho); (have HB := Aside0.mk hb); clear ho hb hg_ hn_))
  go_loopw [7, 8] (fun v i wr => ∃ k : Nat, k ≤ 40 ∧ i = .int .i64 k ∧ Aside0 (Kd.R Kd.string 9 wr w.heap.size (fun _ => True) v (l0 ++ marks k)) ∧ Aside0 (Below w.heap.size w wr)) (fun _ i _ => 40 - (intOf i).toNat)
  case atStart => exact ⟨0, by omega, rfl, ⟨by have := HO2.out; simpa [marks] using this⟩, HB⟩
  case round =>
    clear HB HO2
    obtain ⟨k, hk, rfl, HO, HB⟩ := hrel
    by_cases hlt : k < 40
    · have HM := Aside0.mk (marks_succ k)
      have HLEN := Aside0.mk (show (l0 ++ marks k).length = l0.length + k by simp [marks])
      go_wp2_with (first
        | (go_at_call 37; go_must (refine (word_calls k _ (by omega)).mono ?_); rintro e w' ⟨rfl, rfl⟩)
        | ((with_reducible refine gate_builtin (b := .append) (xs := #[.tmp 18, .tmp 21]) rfl ?_); at_builtin; go_must (refine Kd.R_append Kd.string (w0 := w) w.heap.size rfl (.tmp 18) (.tmp 21) 22 9 (.string ByteArray.empty) 16 rfl Tryd.underlying22 info_str rfl (by decide) (by omega) _ (l0 ++ marks k) (wordS k) [.string (wordS k)] (fun _ => True) (fun _ => False) rfl rfl rfl (fun _ hk => hk.elim) (fun _ _ => trivial) HO.out HB.out HB.out.size ?aL ?_); (case aL => have := HLEN.out; omega); intro v3 w3 ho hb hg_ hn_; clear HB HO; (have HO3 := Aside0.mk ho); (have HB := Aside0.mk hb); clear ho hb hg_ hn_))
      go_roundw
      case rel => exact ⟨k + 1, by omega, by go_num, ⟨by rw [HM.out, ← List.append_assoc]; exact HO3.out⟩, HB⟩
      case measure => simp [intOf]; omega
    · obtain rfl : k = 40 := by omega
      have HOW := Aside0.mk (Kd.own_of_R (enc := Value.string) (h1 := fun _ => rfl) HO.out)
      obtain ⟨b, cap, cur, rfl, hbw, hrow, hn, hcm, hsz, htk⟩ : ∃ b cap cur, u7 = .slice (some ⟨b, 0, none⟩) (l0.length + 40) cap ∧ w.heap.size ≤ b ∧ wr.heap[b]? = some (.cells cur 9 (0, 0)) ∧ l0.length + 40 ≤ cap ∧ cap ≤ maxLen ∧ cur.size = cap ∧ cur.toList.take (l0.length + 40) = encs (Value.string) (l0 ++ marks 40) := by
        have hl : (l0 ++ marks 40).length = l0.length + 40 := by simp [marks]
        rcases HOW.out.2 with ⟨_, h0⟩ | ⟨b, cap, cur, h1, h2, h3, h4, h5, h6, h7⟩
        · omega
        · rw [hl] at h1 h4 h7
          exact ⟨b, cap, cur, h1, h2, h3, h4, h5, by omega, by rw [Nat.mul_one] at h7; exact h7⟩
      have hcur : ∀ j, j < l0.length → cur[j]? = some (.string (l0.getD j ByteArray.empty)) := by
        intro j hj
        have := congrArg (fun l => l[j]?) htk
        simp only [List.getElem?_take, show j < l0.length + 40 by omega, if_true] at this
        rw [← Array.getElem?_toList, this, encs_get (d := ByteArray.empty) _ j (by simp [marks]; omega)]
        simp [List.getD_eq_getElem?_getD, List.getElem?_append_left hj]
      have hmk : ∀ k, k < 40 → cur[l0.length + k]? = some (.string (wordS k)) := by
        intro k hk
        have := congrArg (fun l => l[l0.length + k]?) htk
        simp only [List.getElem?_take, show l0.length + k < l0.length + 40 by omega, if_true] at this
        rw [← Array.getElem?_toList, this, encs_get (d := ByteArray.empty) _ _ (by simp [marks]; omega)]
        simp [List.getD_eq_getElem?_getD, marks, hk]
      have HCUR := Aside0.mk hcur
      have HMK := Aside0.mk hmk
      have HROW := Aside0.mk hrow
      have HSZ := Aside0.mk hsz
      clear hcur hmk hrow hsz htk HOW HO hk hlt
      obtain ⟨va, vb, hg, hFg, hFb, hFa, hFv, oa, ob, hes'⟩ := HR.out
      have hbase : base ≤ w.heap.size := Nat.le_trans (hFb g hFg) (Nat.le_of_lt (blk_lt hg))
      have hgr : wr.heap[g]? = some (.cells (roomCells va vb) 40 (0, 0)) := (HB.out.block _ (blk_lt hg)).trans hg
      have OA := Aside0.mk (pw_own_below oa HB.out)
      have OB := Aside0.mk (pw_own_below ob HB.out)
      have NGA := Aside0.mk (own_ne OA.out hgr (by decide))
      have NGB := Aside0.mk (own_ne OB.out hgr (by decide))
      have NAB := Aside0.mk (own_type_ne OB.out OA.out (by decide))
      have HBB := Aside0.mk (HB.out.mono hbase)
      have HGR := Aside0.mk hgr
      have hc0' : wr.cell? ⟨g, 6, none⟩ = some va := by rw [blk_cell hgr]; rfl
      have HBS := Aside0.mk (Nat.le_trans hbase HB.out.size)
      have HALL := Aside0.mk (And.intro hg (And.intro hFg (And.intro hFb (And.intro hFa (And.intro hFv (And.intro oa (And.intro ob hes')))))))
      clear hg hFg hFb hFa hFv oa ob hes' hgr hbase HR
      go_wp2_with (first
        | ((with_reducible refine gate_builtin (b := .append) (xs := #[.tmp 27, .tmp 29]) rfl ?_); at_builtin; go_must (refine print_append_cells (w0 := w) base rfl (.tmp 27) (.tmp 29) 28 22 (.slice none 0 0) 1 24 rfl Tryd.underlying28 info_strs rfl (by decide) (by decide) va es.length (es.map entVal) [.slice (some ⟨b, 0, none⟩) (l0.length + 40) cap] rfl rfl rfl (by simp [Value.oneCell']) OA.out HBB.out HBS.out (by omega) ?_); intro v4 w4 o4 b4 g4 a4; (obtain ⟨A4, c4, e4⟩ := own_slice o4); subst e4; (have O4 := Aside0.mk o4); (have B4 := Aside0.mk b4); (have G4 := Aside0.mk g4); (have A4' := Aside0.mk a4); (have hg4 := blk_grown HGR.out g4 NGA.out); (have hc4 : w4.cell? ⟨g, 6, none⟩ = some va := by rw [blk_cell hg4]; rfl); (have hf4 : w4.frozen? ⟨g, 6, none⟩ = false := blk_frozen hg4 6); (have hc4' : (w4.setCell ⟨g, 6, none⟩ (.slice A4 (es.length + 1) c4)).cell? ⟨g, 7, none⟩ = some vb := by rw [blk_cell (blk_set hg4 6 _)]; rfl); (have HG4 := Aside0.mk hg4); clear o4 b4 g4 a4 hg4 hc0')
        | ((with_reducible refine gate_builtin (b := .append) (xs := #[.tmp 37, .tmp 40]) rfl ?_); at_builtin; go_must (refine print_append_cells (w0 := w) base rfl (.tmp 37) (.tmp 40) 25 3 (.int .i64 0) 1 8 rfl Tryd.underlying25 info_int rfl (by decide) (by decide) vb es.length (es.map entNum) [.int .i64 (l0.length : Int)] rfl (by simp [Act.eval, World.setCell]) rfl (by simp [Value.oneCell']) (own_setCell (p := ⟨g, 6, none⟩) (own_other OB.out G4.out NAB.out) NGB.out _) (B4.out.setCell (p := ⟨g, 6, none⟩) (HALL.out.2.2.1 g HALL.out.2.1) _) (Nat.le_trans HBS.out (by have := G4.out.size; simpa [World.setCell] using this)) (by omega) ?_); intro v5 w5 o5 b5 g5 a5; (obtain ⟨A5, c5, e5⟩ := own_slice o5); subst e5; (have O5 := Aside0.mk o5); (have G5 := Aside0.mk g5); (have A5' := Aside0.mk a5); (have hg5 := blk_grown (blk_set HG4.out 6 (.slice A4 (es.length + 1) c4)) g5 NGB.out); (have hc5 : w5.cell? ⟨g, 7, none⟩ = some vb := by rw [blk_cell hg5]; rfl); (have hf5 : w5.frozen? ⟨g, 7, none⟩ = false := blk_frozen hg5 7); clear o5 b5 g5 a5 hg5 hc4 hc4' hf4))
      go_ret
      obtain ⟨hg, hFg, hFb, hFa, hFv, oa, ob, hes'⟩ := HALL.out
      exact lay_done hlen hg hFg hFb hFa hFv oa ob hes' HB.out hbw HROW.out HSZ.out hn HCUR.out HMK.out O4.out G4.out A4'.out O5.out G5.out A5'.out
theorem texts_calls (A0 : Option Addr) (c0 : Nat) (l0 : List ByteArray) (w : World) (base : Nat) (F : Nat → Prop) (g : Nat) (es : List Ent) (hR : RoomB w base F g es) (hes : es.length ≤ 1000)
    (hr0 : Kd.C Kd.string w A0 l0.length l0) (hc0 : l0.length ≤ c0) (hlen : l0.length ≤ 1048576) :
    Calls Tryd.prog 7 #[.pointer (some ⟨g, 0, none⟩), .slice A0 l0.length c0] w (LayPost w base F g es l0) := by
  have HR0 := Aside0.mk hr0
  have HR := Aside0.mk hR
  clear hr0 hR
  go_enter Tryd.func7, Tryd.ntmps7
  go_wp2_with (go_at_call 18; go_must (refine (layTexts_calls A0 c0 l0 _ base F g es HR.out hes HR0.out hc0 hlen).mono ?_); rintro e w' ⟨b, cap, rfl, hp⟩; (have HP := Aside0.mk hp); clear hp)
  go_ret
  exact ⟨b, cap, rfl, HP.out⟩
theorem word_calls' (a : Int) (k : Nat) (h : a = (k : Int)) (w : World) (hk : k ≤ 9223372036854775807) : Calls Tryd.prog 37 #[.int .i64 a] w fun e w' => e = .returned (.string (wordS k)) ∧ w' = w := by
  subst h
  exact word_calls k w hk
set_option maxHeartbeats 1000000 in
set_option maxRecDepth 100000 in
theorem holdTexts_calls (w : World) (base : Nat) (F : Nat → Prop) (g : Nat) (es : List Ent) (hR : RoomB w base F g es) (hes : es.length ≤ 1000) :
    Calls Tryd.prog 25 #[.pointer (some ⟨g, 0, none⟩)] w fun e w' => e = .returned (.bool true) ∧ w' = w := by
  obtain ⟨va, vb, hg, hFg, hFb, hFa, hFv, oa, ob, hes'⟩ := hR
  have HES := Aside0.mk hes'
  have hc0 : w.cell? ⟨g, 6, none⟩ = some va := by rw [blk_cell hg]; rfl
  have hc1 : w.cell? ⟨g, 7, none⟩ = some vb := by rw [blk_cell hg]; rfl
  obtain ⟨Aa, ca, ea⟩ := own_slice oa
  obtain ⟨Ab, cb, eb⟩ := own_slice ob
  subst ea eb
  have HA : Aside0 (∀ k (h : k < es.length), ∃ ad, Aa = some ad ∧ w.cell? (ad.add k) = some (entVal es[k])) := ⟨fun k h => by
    obtain ⟨q, cap, he, _, _⟩ := oa.form (by omega)
    injection he with h1 h2 h3
    exact ⟨_, h1, oa.cells (g := q) (by rw [h1]; rfl) k _ (by simp [h])⟩⟩
  have HBc : Aside0 (∀ k (h : k < es.length), ∃ ad, Ab = some ad ∧ w.cell? (ad.add k) = some (entNum es[k])) := ⟨fun k h => by
    obtain ⟨q, cap, he, _, _⟩ := ob.form (by omega)
    injection he with h1 h2 h3
    exact ⟨_, h1, ob.cells (g := q) (by rw [h1]; rfl) k _ (by simp [h])⟩⟩
  clear hg hFg hFb hFa hFv oa ob hes'
  go_enter Tryd.func25, Tryd.ntmps25
  go_wp2
  go_loop [3] (fun i => ∃ k : Nat, k ≤ es.length ∧ i = .int .i64 k) (fun i => es.length - (intOf i).toNat)
  case atStart => exact ⟨0, Nat.zero_le _, rfl⟩
  case round =>
    obtain ⟨k, hk, rfl⟩ := hrel
    by_cases hlt : k < es.length
    · obtain ⟨ada, rfl, ha⟩ := HA.out k hlt
      obtain ⟨adb, rfl, hb⟩ := HBc.out k hlt
      obtain ⟨en, hen⟩ : ∃ en, en = es[k] := ⟨_, rfl⟩
      rw [← hen] at ha hb
      obtain ⟨cur, h1, h2, h3, h4, h5⟩ := HES.out es[k] (List.getElem_mem hlt)
      rw [← hen] at h1 h2 h3 h4 h5
      have HC : Aside0 (∀ m, m < 40 → w.cell? ⟨en.b, en.n + m, none⟩ = some (.string (wordS m))) := ⟨fun m hm => by rw [blk_cell h1]; exact h5 m hm⟩
      unfold entVal at ha
      unfold entNum at hb
      clear h1 h2 h5 hen
      go_wp2
      go_loop [5] (fun i => ∃ m : Nat, m ≤ 40 ∧ i = .int .i64 ((en.n : Int) + (m : Int))) (fun i => en.n + 40 - (intOf i).toNat)
      case atStart => exact ⟨0, Nat.zero_le _, by simp⟩
      case round =>
        obtain ⟨m, hm, rfl⟩ := hrel
        by_cases hml : m < 40
        · have hcell := HC.out m hml
          have hnat : ((en.n : Int) + (m : Int)).toNat = en.n + m := by omega
          go_wp2_with (first | (go_at_call 37; go_must (refine (word_calls' _ m (by omega) _ (by omega)).mono ?_); rintro e w' ⟨rfl, rfl⟩))
          go_round
          case rel => exact ⟨m + 1, by omega, by go_num⟩
          case measure => simp [intOf]; omega
        · go_wp2
          go_round
          case rel => exact ⟨k + 1, by omega, by go_num⟩
          case measure => simp [intOf]; omega
    · go_wp2
      go_ret
      exact ⟨rfl, rfl⟩
set_option maxHeartbeats 1000000 in
set_option maxRecDepth 100000 in
theorem hold_calls (w : World) (base : Nat) (F : Nat → Prop) (g : Nat) (es : List Ent) (hR : RoomB w base F g es) (hes : es.length ≤ 1000) :
    Calls Tryd.prog 12 #[.pointer (some ⟨g, 0, none⟩)] w fun e w' => e = .returned (.bool true) ∧ w' = w := by
  have HR := Aside0.mk hR
  have HE : Aside0 (∀ j, j < 28 → j ≠ 6 → j ≠ 7 → w.cell? ⟨g, j, none⟩ = some (.slice none 0 0)) := ⟨fun j h1 h2 h3 => by
    obtain ⟨va, vb, hg, _⟩ := hR
    rw [blk_cell hg]
    have : j = 0 ∨ j = 1 ∨ j = 2 ∨ j = 3 ∨ j = 4 ∨ j = 5 ∨ j = 8 ∨ j = 9 ∨ j = 10 ∨ j = 11 ∨ j = 12 ∨ j = 13 ∨ j = 14 ∨ j = 15 ∨ j = 16 ∨ j = 17 ∨ j = 18 ∨ j = 19 ∨ j = 20 ∨ j = 21 ∨ j = 22 ∨ j = 23 ∨ j = 24 ∨ j = 25 ∨ j = 26 ∨ j = 27 := by omega
    rcases this with rfl | rfl | rfl | rfl | rfl | rfl | rfl | rfl | rfl | rfl | rfl | rfl | rfl | rfl | rfl | rfl | rfl | rfl | rfl | rfl | rfl | rfl | rfl | rfl | rfl | rfl <;> rfl⟩
  clear hR
  go_enter Tryd.func12, Tryd.ntmps12
  go_wp2_with (first
    | (go_at_call 22; go_must (refine (Room.holdBytes_empty g _ (HE.out 0 (by decide) (by decide) (by decide))).mono ?_); rintro e w' ⟨rfl, rfl⟩)
    | (go_at_call 23; go_must (refine (Room.holdInts_empty g _ (HE.out 2 (by decide) (by decide) (by decide))).mono ?_); rintro e w' ⟨rfl, rfl⟩)
    | (go_at_call 24; go_must (refine (Room.holdNums_empty g _ (HE.out 4 (by decide) (by decide) (by decide))).mono ?_); rintro e w' ⟨rfl, rfl⟩)
    | (go_at_call 25; go_must (refine (holdTexts_calls _ base F g es HR.out hes).mono ?_); rintro e w' ⟨rfl, rfl⟩)
    | (go_at_call 26; go_must (refine (Room.holdEntries_empty g _ (HE.out 8 (by decide) (by decide) (by decide))).mono ?_); rintro e w' ⟨rfl, rfl⟩)
    | (go_at_call 27; go_must (refine (Room.holdPairs_empty g _ (HE.out 10 (by decide) (by decide) (by decide))).mono ?_); rintro e w' ⟨rfl, rfl⟩)
    | (go_at_call 28; go_must (refine (Room.holdWrites_empty g _ (HE.out 12 (by decide) (by decide) (by decide))).mono ?_); rintro e w' ⟨rfl, rfl⟩)
    | (go_at_call 29; go_must (refine (Room.holdTables_empty g _ (HE.out 14 (by decide) (by decide) (by decide))).mono ?_); rintro e w' ⟨rfl, rfl⟩)
    | (go_at_call 30; go_must (refine (Room.holdPlaces_empty g _ (HE.out 16 (by decide) (by decide) (by decide))).mono ?_); rintro e w' ⟨rfl, rfl⟩)
    | (go_at_call 31; go_must (refine (Room.holdPlaceds_empty g _ (HE.out 18 (by decide) (by decide) (by decide))).mono ?_); rintro e w' ⟨rfl, rfl⟩)
    | (go_at_call 32; go_must (refine (Room.holdChunks_empty g _ (HE.out 20 (by decide) (by decide) (by decide))).mono ?_); rintro e w' ⟨rfl, rfl⟩)
    | (go_at_call 33; go_must (refine (Room.holdGroups_empty g _ (HE.out 22 (by decide) (by decide) (by decide))).mono ?_); rintro e w' ⟨rfl, rfl⟩)
    | (go_at_call 34; go_must (refine (Room.holdFiles_empty g _ (HE.out 24 (by decide) (by decide) (by decide))).mono ?_); rintro e w' ⟨rfl, rfl⟩)
    | (go_at_call 35; go_must (refine (Room.holdSteps_empty g _ (HE.out 26 (by decide) (by decide) (by decide))).mono ?_); rintro e w' ⟨rfl, rfl⟩))
  go_ret
  exact ⟨rfl, rfl⟩
/-- A new room. -/
theorem room_new (W : World) (base : Nat) (hb : base ≤ W.heap.size) : RoomB (W.alloc (.cells (roomCells (.slice none 0 0) (.slice none 0 0)) 40)) base (fun k => k = W.heap.size) W.heap.size [] :=
  ⟨.slice none 0 0, .slice none 0 0, heap_alloc_new W _, rfl, fun k hk => by omega, fun k hk => by simp [Value.ownBlock] at hk, fun k hk => by simp [Value.ownBlock] at hk, own_nil _ _ _ _, own_nil _ _ _ _, fun e he => by simp at he⟩
theorem RowAt.cell {W : World} {b : Nat} {l : List ByteArray} (h : RowAt W b l) (k : Nat) (hk : k < l.length) : W.cell? ⟨b, k, none⟩ = some (.string (rdOf ByteArray.empty l k)) := by
  obtain ⟨cur, h1, h2⟩ := h
  rw [blk_cell h1, h2 k hk]
  rfl
theorem RowAt.frozen {W : World} {b : Nat} {l : List ByteArray} (h : RowAt W b l) (k : Nat) : W.frozen? ⟨b, k, none⟩ = false := by
  obtain ⟨cur, h1, h2⟩ := h
  exact blk_frozen h1 k
theorem RowAt.set {W : World} {b : Nat} {l : List ByteArray} (h : RowAt W b l) (k : Nat) (hk : k < l.length) (x : ByteArray) : RowAt (W.setCell ⟨b, k, none⟩ (.string x)) b (l.set k x) := by
  obtain ⟨cur, h1, h2⟩ := h
  refine ⟨_, blk_set h1 k _, fun j hj => ?_⟩
  rw [List.length_set] at hj
  have hkc : k < cur.size := by
    have := h2 k hk
    exact (Array.getElem?_eq_some_iff.1 this).1
  by_cases e : j = k
  · subst e
    simp [List.getD_eq_getElem?_getD, hj, hkc]
  · rw [Array.getElem?_setIfInBounds_ne (by omega), h2 j hj]
    simp [List.getD_eq_getElem?_getD, List.getElem?_set_ne (Ne.symm e)]
/-- A store ahead of the marks leaves them. -/
theorem EntOk.set {W : World} {e : Ent} (h : EntOk W e) (b k : Nat) (v : Value) (hk : b = e.b → k < e.n) : EntOk (W.setCell ⟨b, k, none⟩ v) e := by
  obtain ⟨cur, h1, h2, h3, h4, h5⟩ := h
  by_cases hb : b = e.b
  · have := hk hb
    subst hb
    refine ⟨_, blk_set h1 k v, by simpa using h2, h3, h4, fun j hj => ?_⟩
    rw [Array.getElem?_setIfInBounds_ne (by omega)]
    exact h5 j hj
  · exact ⟨cur, (setCell_block (W := W) (j := k) (u := v) (Ne.symm hb)).trans h1, h2, h3, h4, h5⟩
theorem RoomB.set {W : World} {base : Nat} {F : Nat → Prop} {g : Nat} {es : List Ent} (h : RoomB W base F g es) (b k : Nat) (v : Value) (hF : ¬ F b) (hk : ∀ e ∈ es, b = e.b → k < e.n) : RoomB (W.setCell ⟨b, k, none⟩ v) base F g es := by
  obtain ⟨va, vb, h1, h2, h3, h4, h5, h6, h7, h8⟩ := h
  refine ⟨va, vb, (setCell_block (W := W) (j := k) (u := v) (by rintro rfl; exact hF h2)).trans h1, h2, h3, h4, h5, own_setCell (p := ⟨b, k, none⟩) h6 (fun e => hF (h4 b e.symm)) v, own_setCell (p := ⟨b, k, none⟩) h7 (fun e => hF (h5 b e.symm)) v, fun e he => (h8 e he).set b k v (hk e he)⟩
end Go.Proofs.YtlcohooognjmaaaDoor.RoomT
