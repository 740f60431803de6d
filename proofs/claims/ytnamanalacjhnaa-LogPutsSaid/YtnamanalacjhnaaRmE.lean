/- The room that lent a group: it, and its look at all (this claim's own lemmas). -/
import Derived.Test.YtnamanalacjhnaaRmH
namespace Go.Proofs.Ytnamanalacjhnaa.RmG
open Go.RowKit Go.Proofs.YtnamanalacjhnaaW.PrintWords Go.Proofs.Ytnamanalacjhnaa.Own Go.Proofs.Ytnamanalacjhnaa.Wk
set_option linter.unusedVariables false
theorem groups_calls (w0 w : World) (A0 : Option Addr) (c0 : Nat) (G : List (List Wr)) (F : Nat → Prop) (g : Nat) (hR : RoomB w w0.heap.size F g []) (hB : Below w0.heap.size w0 w)
    (hr0 : Kd.C kWs w0 A0 G.length G) (hc0 : G.length ≤ c0) (hG : G.length ≤ 100000) (hl : ∀ l ∈ G, l.length ≤ 100000) :
    Calls Try.prog 7 #[.pointer (some ⟨g, 0, none⟩), .slice A0 G.length c0] w (GroupPost w0 g G) := by
  have HC := Aside0.mk (layGroups_calls w0 w A0 c0 G F g hR hB hr0 hc0 hG hl)
  clear hR hB hr0 hl
  go_enter Try.func7, Try.ntmps7
  go_wp2_with fail
  refine HC.out.mono ?_
  rintro e w' ⟨A, rfl, hp⟩
  have HP := Aside0.mk hp
  clear hp
  go_wp2_with fail
  go_ret
  exact ⟨A, rfl, HP.out⟩
set_option maxHeartbeats 1000000 in
set_option maxRecDepth 100000 in
theorem hold_calls (w : World) (g : Nat) (G : List (List Wr)) (hR : RoomG w g G) (hG : G.length ≤ 100000) (hl : ∀ l ∈ G, l.length ≤ 100000) :
    Calls Try.prog 12 #[.pointer (some ⟨g, 0, none⟩)] w fun e w' => e = .returned (.bool true) ∧ Below w.heap.size w w' := by
  have HR := Aside0.mk hR
  have HE : Aside0 (∀ (W : World), Below w.heap.size w W → ∀ j, j < 28 → j ≠ 12 → j ≠ 13 → j ≠ 22 → j ≠ 23 → W.cell? ⟨g, j, none⟩ = some (.slice none 0 0)) := ⟨fun W hW j h1 h2 h3 h4 h5 => by
    obtain ⟨A1, c1, A2, c2, A3, c3, A4, c4, hg, _⟩ := hR
    rw [blk_cell ((hW.block _ (blk_lt hg)).trans hg)]
    have : j = 0 ∨ j = 1 ∨ j = 2 ∨ j = 3 ∨ j = 4 ∨ j = 5 ∨ j = 6 ∨ j = 7 ∨ j = 8 ∨ j = 9 ∨ j = 10 ∨ j = 11 ∨ j = 14 ∨ j = 15 ∨ j = 16 ∨ j = 17 ∨ j = 18 ∨ j = 19 ∨ j = 20 ∨ j = 21 ∨ j = 24 ∨ j = 25 ∨ j = 26 ∨ j = 27 := by omega
    rcases this with rfl | rfl | rfl | rfl | rfl | rfl | rfl | rfl | rfl | rfl | rfl | rfl | rfl | rfl | rfl | rfl | rfl | rfl | rfl | rfl | rfl | rfl | rfl | rfl <;> rfl⟩
  have HL := Aside0.mk hl
  have HB := Aside0.mk (Below.refl w.heap.size w)
  clear hR hl
  go_enter Try.func12, Try.ntmps12
  go_wp2_with (first
    | (go_at_call 25; go_must (refine (Room.holdBytes_empty g _ (HE.out _ HB.out 0 (by decide) (by decide) (by decide) (by decide) (by decide))).mono ?_); rintro e w' ⟨rfl, hw'⟩; subst hw')
    | (go_at_call 26; go_must (refine (Room.holdInts_empty g _ (HE.out _ HB.out 2 (by decide) (by decide) (by decide) (by decide) (by decide))).mono ?_); rintro e w' ⟨rfl, hw'⟩; subst hw')
    | (go_at_call 27; go_must (refine (Room.holdNums_empty g _ (HE.out _ HB.out 4 (by decide) (by decide) (by decide) (by decide) (by decide))).mono ?_); rintro e w' ⟨rfl, hw'⟩; subst hw')
    | (go_at_call 28; go_must (refine (Room.holdTexts_empty g _ (HE.out _ HB.out 6 (by decide) (by decide) (by decide) (by decide) (by decide))).mono ?_); rintro e w' ⟨rfl, hw'⟩; subst hw')
    | (go_at_call 29; go_must (refine (Room.holdEntries_empty g _ (HE.out _ HB.out 8 (by decide) (by decide) (by decide) (by decide) (by decide))).mono ?_); rintro e w' ⟨rfl, hw'⟩; subst hw')
    | (go_at_call 30; go_must (refine (Room.holdPairs_empty g _ (HE.out _ HB.out 10 (by decide) (by decide) (by decide) (by decide) (by decide))).mono ?_); rintro e w' ⟨rfl, hw'⟩; subst hw')
    | (go_at_call 31; go_must (refine (holdWrites_calls _ g G (HR.out.below HB.out) hG HL.out).mono ?_); rintro e w6 ⟨rfl, hb6⟩; have HB6 := Aside0.mk (below_step HB.out hb6); clear hb6)
    | (go_at_call 32; go_must (refine (Room.holdTables_empty g _ (HE.out _ HB6.out 14 (by decide) (by decide) (by decide) (by decide) (by decide))).mono ?_); rintro e w' ⟨rfl, hw'⟩; subst hw')
    | (go_at_call 33; go_must (refine (Room.holdPlaces_empty g _ (HE.out _ HB6.out 16 (by decide) (by decide) (by decide) (by decide) (by decide))).mono ?_); rintro e w' ⟨rfl, hw'⟩; subst hw')
    | (go_at_call 34; go_must (refine (Room.holdPlaceds_empty g _ (HE.out _ HB6.out 18 (by decide) (by decide) (by decide) (by decide) (by decide))).mono ?_); rintro e w' ⟨rfl, hw'⟩; subst hw')
    | (go_at_call 35; go_must (refine (Room.holdChunks_empty g _ (HE.out _ HB6.out 20 (by decide) (by decide) (by decide) (by decide) (by decide))).mono ?_); rintro e w' ⟨rfl, hw'⟩; subst hw')
    | (go_at_call 36; go_must (refine (holdGroups_calls _ g G (HR.out.below HB6.out) hG).mono ?_); rintro e w11 ⟨rfl, hb11⟩; have HB11 := Aside0.mk (below_step HB6.out hb11); clear hb11)
    | (go_at_call 37; go_must (refine (Room.holdFiles_empty g _ (HE.out _ HB11.out 24 (by decide) (by decide) (by decide) (by decide) (by decide))).mono ?_); rintro e w' ⟨rfl, hw'⟩; subst hw')
    | (go_at_call 38; go_must (refine (Room.holdSteps_empty g _ (HE.out _ HB11.out 26 (by decide) (by decide) (by decide) (by decide) (by decide))).mono ?_); rintro e w' ⟨rfl, hw'⟩; subst hw'))
  go_ret
  exact ⟨rfl, HB11.out⟩
end Go.Proofs.Ytnamanalacjhnaa.RmG
