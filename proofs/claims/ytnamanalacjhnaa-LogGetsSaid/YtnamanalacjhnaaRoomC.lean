/- The room's look at what it copied: its marks stand (this claim's own lemmas). -/
import Derived.Test.YtnamanalacjhnaaRoomB
import Derived.Test.YtnamanalacjhnaaRoomH
namespace Go.Proofs.Ytnamanalacjhnaa.Room
open Go.RowKit Go.Proofs.YtnamanalacjhnaaW.PrintWords Go.Proofs.Ytnamanalacjhnaa.Own
set_option linter.unusedVariables false
theorem bytes_calls (A0 : Option Addr) (c0 : Nat) (l0 : List Int) (w : World) (base : Nat) (F : Nat → Prop) (g : Nat) (es : List Ent) (hR : RoomB w base F g es) (hes : es.length ≤ 1000)
    (hr0 : Kd.C (Kd.int .u8) w A0 l0.length l0) (hc0 : l0.length ≤ c0) (hlen : l0.length ≤ 140737488351232) :
    Calls Try.prog 13 #[.pointer (some ⟨g, 0, none⟩), .slice A0 l0.length c0] w (LayPost w base F g es l0) := by
  have HR0 := Aside0.mk hr0
  have HR := Aside0.mk hR
  clear hr0 hR
  go_enter Try.func13, Try.ntmps13
  go_wp2_with (go_at_call 39; go_must (refine (layBytes_calls A0 c0 l0 _ base F g es HR.out hes HR0.out hc0 hlen).mono ?_); rintro e w' ⟨b, cap, rfl, hp⟩; (have HP := Aside0.mk hp); clear hp)
  go_ret
  exact ⟨b, cap, rfl, HP.out⟩
theorem lot_calls' (a : Int) (k : Nat) (h : a = (k : Int)) (w : World) (hk : k ≤ 9223372036854775807) : Calls Try.prog 50 #[.int .i64 a] w fun e w' => e = .returned (.int .i64 (loti k)) ∧ w' = w := by
  subst h
  exact lot_calls k w hk
set_option maxHeartbeats 1000000 in
set_option maxRecDepth 100000 in
theorem holdBytes_calls (w : World) (base : Nat) (F : Nat → Prop) (g : Nat) (es : List Ent) (hR : RoomB w base F g es) (hes : es.length ≤ 1000) :
    Calls Try.prog 25 #[.pointer (some ⟨g, 0, none⟩)] w fun e w' => e = .returned (.bool true) ∧ w' = w := by
  obtain ⟨va, vb, hg, hFg, hFb, hFa, hFv, oa, ob, hes'⟩ := hR
  have HES := Aside0.mk hes'
  have hc0 : w.cell? ⟨g, 0, none⟩ = some va := by rw [blk_cell hg]; rfl
  have hc1 : w.cell? ⟨g, 1, none⟩ = some vb := by rw [blk_cell hg]; rfl
  obtain ⟨Aa, ca, ea⟩ := own_slice oa
  obtain ⟨Ab, cb, eb⟩ := own_slice ob
  subst ea eb
  have HA : Aside0 (∀ k (h : k < es.length), ∃ ad, Aa = some ad ∧ w.cell? (ad.add k) = some (entVal es[k])) := ⟨fun k h => by
    obtain ⟨q, cap, he, _, _⟩ := oa.form (by omega)
    injection he with h1 h2 h3
    exact ⟨_, h1, oa.cells (g := q) (by rw [h1]; rfl) k _ (by simp [h])⟩⟩
  have HBc : Aside0 (∀ k (h : k < es.length), ∃ ad, Ab = some ad ∧ w.cell? (ad.add k) = some (entNum es[k])) := ⟨fun k h => by
    obtain ⟨q, cap, he, _, _⟩ := ob.form (by omega)
    injection he with h1 h2 h3
    exact ⟨_, h1, ob.cells (g := q) (by rw [h1]; rfl) k _ (by simp [h])⟩⟩
  clear hg hFg hFb hFa hFv oa ob hes'
  go_enter Try.func25, Try.ntmps25
  go_wp2
  go_loop [3] (fun i => ∃ k : Nat, k ≤ es.length ∧ i = .int .i64 k) (fun i => es.length - (intOf i).toNat)
  case atStart => exact ⟨0, Nat.zero_le _, rfl⟩
  case round =>
    obtain ⟨k, hk, rfl⟩ := hrel
    by_cases hlt : k < es.length
    · obtain ⟨ada, rfl, ha⟩ := HA.out k hlt
      obtain ⟨adb, rfl, hb⟩ := HBc.out k hlt
      obtain ⟨en, hen⟩ : ∃ en, en = es[k] := ⟨_, rfl⟩
      rw [← hen] at ha hb
      obtain ⟨cur, h1, h2, h3, h4, h5⟩ := HES.out es[k] (List.getElem_mem hlt)
      rw [← hen] at h1 h2 h3 h4 h5
      have HC : Aside0 (∀ m, m < 600 → w.cell? ⟨en.b, en.n + m, none⟩ = some (.int .u8 (lotb m))) := ⟨fun m hm => by rw [blk_cell h1]; exact h5 m hm⟩
      unfold entVal at ha
      unfold entNum at hb
      clear h1 h2 h5 hen
      go_wp2
      go_loop [5] (fun i => ∃ m : Nat, m ≤ 600 ∧ i = .int .i64 ((en.n : Int) + (m : Int))) (fun i => en.n + 600 - (intOf i).toNat)
      case atStart => exact ⟨0, Nat.zero_le _, by simp⟩
      case round =>
        obtain ⟨m, hm, rfl⟩ := hrel
        by_cases hml : m < 600
        · have hcell := HC.out m hml
          have HT : Aside0 (((lotb m) != (loti m % 256)) = false) := ⟨by rw [lot_byte]; simp⟩
          have ht := HT.out
          have hnat : ((en.n : Int) + (m : Int)).toNat = en.n + m := by omega
          go_wp2_with (first | (go_at_call 50; go_must (refine (lot_calls' _ m (by omega) _ (by omega)).mono ?_); rintro e w' ⟨rfl, rfl⟩))
          go_round
          case rel => exact ⟨m + 1, by omega, by go_num⟩
          case measure => simp [intOf]; omega
        · go_wp2
          go_round
          case rel => exact ⟨k + 1, by omega, by go_num⟩
          case measure => simp [intOf]; omega
    · go_wp2
      go_ret
      exact ⟨rfl, rfl⟩
set_option maxHeartbeats 1000000 in
set_option maxRecDepth 100000 in
theorem hold_calls (w : World) (base : Nat) (F : Nat → Prop) (g : Nat) (es : List Ent) (hR : RoomB w base F g es) (hes : es.length ≤ 1000) :
    Calls Try.prog 12 #[.pointer (some ⟨g, 0, none⟩)] w fun e w' => e = .returned (.bool true) ∧ w' = w := by
  have HR := Aside0.mk hR
  have HE : Aside0 (∀ j, 2 ≤ j → j < 28 → w.cell? ⟨g, j, none⟩ = some (.slice none 0 0)) := ⟨fun j h1 h2 => by
    obtain ⟨va, vb, hg, _⟩ := hR
    rw [blk_cell hg]
    have : j = 2 ∨ j = 3 ∨ j = 4 ∨ j = 5 ∨ j = 6 ∨ j = 7 ∨ j = 8 ∨ j = 9 ∨ j = 10 ∨ j = 11 ∨ j = 12 ∨ j = 13 ∨ j = 14 ∨ j = 15 ∨ j = 16 ∨ j = 17 ∨ j = 18 ∨ j = 19 ∨ j = 20 ∨ j = 21 ∨ j = 22 ∨ j = 23 ∨ j = 24 ∨ j = 25 ∨ j = 26 ∨ j = 27 := by omega
    rcases this with rfl | rfl | rfl | rfl | rfl | rfl | rfl | rfl | rfl | rfl | rfl | rfl | rfl | rfl | rfl | rfl | rfl | rfl | rfl | rfl | rfl | rfl | rfl | rfl | rfl | rfl <;> rfl⟩
  clear hR
  go_enter Try.func12, Try.ntmps12
  go_wp2_with (first
    | (go_at_call 25; go_must (refine (holdBytes_calls _ base F g es HR.out hes).mono ?_); rintro e w' ⟨rfl, rfl⟩)
    | (go_at_call 26; go_must (refine (holdInts_empty g _ (HE.out 2 (by decide) (by decide))).mono ?_); rintro e w' ⟨rfl, rfl⟩)
    | (go_at_call 27; go_must (refine (holdNums_empty g _ (HE.out 4 (by decide) (by decide))).mono ?_); rintro e w' ⟨rfl, rfl⟩)
    | (go_at_call 28; go_must (refine (holdTexts_empty g _ (HE.out 6 (by decide) (by decide))).mono ?_); rintro e w' ⟨rfl, rfl⟩)
    | (go_at_call 29; go_must (refine (holdEntries_empty g _ (HE.out 8 (by decide) (by decide))).mono ?_); rintro e w' ⟨rfl, rfl⟩)
    | (go_at_call 30; go_must (refine (holdPairs_empty g _ (HE.out 10 (by decide) (by decide))).mono ?_); rintro e w' ⟨rfl, rfl⟩)
    | (go_at_call 31; go_must (refine (holdWrites_empty g _ (HE.out 12 (by decide) (by decide))).mono ?_); rintro e w' ⟨rfl, rfl⟩)
    | (go_at_call 32; go_must (refine (holdTables_empty g _ (HE.out 14 (by decide) (by decide))).mono ?_); rintro e w' ⟨rfl, rfl⟩)
    | (go_at_call 33; go_must (refine (holdPlaces_empty g _ (HE.out 16 (by decide) (by decide))).mono ?_); rintro e w' ⟨rfl, rfl⟩)
    | (go_at_call 34; go_must (refine (holdPlaceds_empty g _ (HE.out 18 (by decide) (by decide))).mono ?_); rintro e w' ⟨rfl, rfl⟩)
    | (go_at_call 35; go_must (refine (holdChunks_empty g _ (HE.out 20 (by decide) (by decide))).mono ?_); rintro e w' ⟨rfl, rfl⟩)
    | (go_at_call 36; go_must (refine (holdGroups_empty g _ (HE.out 22 (by decide) (by decide))).mono ?_); rintro e w' ⟨rfl, rfl⟩)
    | (go_at_call 37; go_must (refine (holdFiles_empty g _ (HE.out 24 (by decide) (by decide))).mono ?_); rintro e w' ⟨rfl, rfl⟩)
    | (go_at_call 38; go_must (refine (holdSteps_empty g _ (HE.out 26 (by decide) (by decide))).mono ?_); rintro e w' ⟨rfl, rfl⟩))
  go_ret
  exact ⟨rfl, rfl⟩
/-- A new room. -/
theorem room_new (W : World) (base : Nat) (hb : base ≤ W.heap.size) : RoomB (W.alloc (.cells (roomCells (.slice none 0 0) (.slice none 0 0)) 42)) base (fun k => k = W.heap.size) W.heap.size [] :=
  ⟨.slice none 0 0, .slice none 0 0, heap_alloc_new W _, rfl, fun k hk => by omega, fun k hk => by simp [Value.ownBlock] at hk, fun k hk => by simp [Value.ownBlock] at hk, own_nil _ _ _ _, own_nil _ _ _ _, fun e he => by simp at he⟩
theorem RowAt.cell {W : World} {b : Nat} {l : List Int} (h : RowAt W b l) (k : Nat) (hk : k < l.length) : W.cell? ⟨b, k, none⟩ = some (.int .u8 (rd l k)) := by
  obtain ⟨cur, h1, h2⟩ := h
  rw [blk_cell h1, h2 k hk]
  rfl
theorem RowAt.frozen {W : World} {b : Nat} {l : List Int} (h : RowAt W b l) (k : Nat) : W.frozen? ⟨b, k, none⟩ = false := by
  obtain ⟨cur, h1, h2⟩ := h
  exact blk_frozen h1 k
theorem RowAt.set {W : World} {b : Nat} {l : List Int} (h : RowAt W b l) (k : Nat) (hk : k < l.length) (x : Int) : RowAt (W.setCell ⟨b, k, none⟩ (.int .u8 x)) b (l.set k x) := by
  obtain ⟨cur, h1, h2⟩ := h
  refine ⟨_, blk_set h1 k _, fun j hj => ?_⟩
  rw [List.length_set] at hj
  have hkc : k < cur.size := by
    have := h2 k hk
    exact (Array.getElem?_eq_some_iff.1 this).1
  by_cases e : j = k
  · subst e
    simp [List.getD_eq_getElem?_getD, hj, hkc]
  · rw [Array.getElem?_setIfInBounds_ne (by omega), h2 j hj]
    simp [List.getD_eq_getElem?_getD, List.getElem?_set_ne (Ne.symm e)]
/-- A store ahead of the marks leaves them. -/
theorem EntOk.set {W : World} {e : Ent} (h : EntOk W e) (b k : Nat) (v : Value) (hk : b = e.b → k < e.n) : EntOk (W.setCell ⟨b, k, none⟩ v) e := by
  obtain ⟨cur, h1, h2, h3, h4, h5⟩ := h
  by_cases hb : b = e.b
  · have := hk hb
    subst hb
    refine ⟨_, blk_set h1 k v, by simpa using h2, h3, h4, fun j hj => ?_⟩
    rw [Array.getElem?_setIfInBounds_ne (by omega)]
    exact h5 j hj
  · exact ⟨cur, (setCell_block (W := W) (j := k) (u := v) (Ne.symm hb)).trans h1, h2, h3, h4, h5⟩
theorem RoomB.set {W : World} {base : Nat} {F : Nat → Prop} {g : Nat} {es : List Ent} (h : RoomB W base F g es) (b k : Nat) (v : Value) (hF : ¬ F b) (hk : ∀ e ∈ es, b = e.b → k < e.n) : RoomB (W.setCell ⟨b, k, none⟩ v) base F g es := by
  obtain ⟨va, vb, h1, h2, h3, h4, h5, h6, h7, h8⟩ := h
  refine ⟨va, vb, (setCell_block (W := W) (j := k) (u := v) (by rintro rfl; exact hF h2)).trans h1, h2, h3, h4, h5, own_setCell (p := ⟨b, k, none⟩) h6 (fun e => hF (h4 b e.symm)) v, own_setCell (p := ⟨b, k, none⟩) h7 (fun e => hF (h5 b e.symm)) v, fun e he => (h8 e he).set b k v (hk e he)⟩
end Go.Proofs.Ytnamanalacjhnaa.Room
