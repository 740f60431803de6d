/- The room's look at a group that it lent (this claim's own lemmas). -/
import Derived.Test.YtnamanalacjhnaaRmL
import Derived.BigQuiet
import Derived.Deep.QuietTactic
namespace Go.Proofs.Ytnamanalacjhnaa.RmG
open Go.RowKit Go.Proofs.YtnamanalacjhnaaW.PrintWords Go.Proofs.Ytnamanalacjhnaa.Own Go.Proofs.Ytnamanalacjhnaa.Wk
set_option linter.unusedVariables false
theorem int_at {k : IntKind} {w : World} {A : Option Addr} {n : Nat} {xs : List Int} (h : Kd.C (Kd.int k) w A n xs) (i : Nat) (h1 : i < n) : ∃ ad, A = some ad ∧ w.cell? (ad.add i) = some (.int k (xs.getD i 0)) := by
  obtain ⟨ad, c, h2, h3, h4, h5⟩ := Kd.C_get h 0 (i : Int) (by omega) (by omega)
  refine ⟨ad, h2, ?_⟩
  have h6 : c = [.int k (xs.getD i 0)] := by have h7 : c = [.int k (xs.getD ((i : Int).toNat) 0)] := h4; rw [Int.toNat_natCast] at h7; exact h7
  subst h6
  have := h5 0 _ rfl
  have hsz : (Kd.int k).sz = 1 := rfl
  rw [hsz] at this
  simpa using this
set_option maxHeartbeats 2000000 in
set_option maxRecDepth 100000 in
theorem holdWrites_calls (w : World) (g : Nat) (G : List (List Wr)) (hR : RoomG w g G) (hG : G.length ≤ 100000) (hl : ∀ l ∈ G, l.length ≤ 100000) :
    Calls Try.prog 31 #[.pointer (some ⟨g, 0, none⟩)] w fun e w' => e = .returned (.bool true) ∧ Below w.heap.size w w' := by
  obtain ⟨A1, c1, A2, c2, A3, c3, A4, c4, hg, hC1, hC2, -, -⟩ := hR
  have HG := Aside0.mk hg
  have HC1 := Aside0.mk hC1
  have HC2 := Aside0.mk hC2
  have HL := Aside0.mk hl
  clear hg hC1 hC2 hl
  go_enter Try.func31, Try.ntmps31
  go_wp2_with fail
  go_loopw [3] (fun i wr => ∃ k : Nat, k ≤ G.length ∧ i = .int .i64 k ∧ Aside0 (Below w.heap.size w wr)) (fun i _ => G.length - (intOf i).toNat)
  case atStart => exact ⟨0, Nat.zero_le _, rfl, ⟨Below.refl _ _⟩⟩
  case round =>
    obtain ⟨k, hk, rfl, HB⟩ := hrel
    have HG1 := Aside0.mk ((HB.out.block _ (blk_lt HG.out)).trans HG.out)
    have hc12 : wr.cell? ⟨g, 12, none⟩ = some (.slice A1 G.length c1) := by rw [blk_cell HG1.out]; rfl
    have hc13 : wr.cell? ⟨g, 13, none⟩ = some (.slice A2 G.length c2) := by rw [blk_cell HG1.out]; rfl
    by_cases hlt : k < G.length
    · obtain ⟨ad2, e2, hx2⟩ := int_at (Kd.C_below HC2.out HB.out) k hlt
      obtain ⟨ad1, A0, c0, e1, hx1, hl1, hi1⟩ := QPt.at_L3 (Kd.C_below HC1.out HB.out) (k : Int) (by omega) (by omega)
      subst e1 e2
      obtain ⟨l, hl⟩ : ∃ l, l = G[k] := ⟨_, rfl⟩
      have hr1 : QPt.rd_L3 (G.map (· ++ marksW 4)) (k : Int) = l ++ marksW 4 := by simp [QPt.rd_L3, List.getD_eq_getElem?_getD, hlt, hl]
      have hr2 : (G.map fun l => (l.length : Int)).getD k 0 = (l.length : Int) := by simp [List.getD_eq_getElem?_getD, hlt, hl]
      have hll : l.length ≤ 100000 := by rw [hl]; exact HL.out _ (List.getElem_mem hlt)
      have hle : (l ++ marksW 4).length = l.length + 4 := by simp [marksW]
      rw [hr1] at hx1 hi1
      rw [hr2] at hx2
      rw [hle] at hx1 hi1
      rw [Int.toNat_natCast] at hx1
      have HI := Aside0.mk hi1
      have HLE := Aside0.mk hle
      have hb1 : (ad1.add k).block < wr.heap.size := World.block_lt_of_cell? wr _ hx1
      have HX1 := Aside0.mk hx1
      clear hr1 hr2 hl hi1 hl1 hle
      go_wp2_with fail
      clear hx1 hx2 hc12 hc13
      obtain ⟨wo, rfl⟩ : ∃ wo : World, wo = wr := ⟨_, rfl⟩
      go_loopw [5] (fun i wi => ∃ m : Nat, m ≤ 4 ∧ i = .int .i64 ((l.length : Int) + (m : Int)) ∧ Aside0 (Below wo.heap.size wo wi)) (fun i _ => l.length + 4 - (intOf i).toNat)
      case atStart => exact ⟨0, Nat.zero_le _, by simp, ⟨Below.refl _ _⟩⟩
      case round =>
        obtain ⟨m, hm, rfl, HBI⟩ := hrel
        have HBO := Aside0.mk (HB.out.trans (HBI.out.mono HB.out.size))
        have HG2 := Aside0.mk ((HBO.out.block _ (blk_lt HG.out)).trans HG.out)
        have hc12 : wr.cell? ⟨g, 12, none⟩ = some (.slice (some ad1) G.length c1) := by rw [blk_cell HG2.out]; rfl
        have hx1 : wr.cell? (ad1.add k) = some (.slice A0 (l.length + 4) c0) := (HBI.out.cell hb1).trans HX1.out
        by_cases hml : m < 4
        · have hC := Kd.C_below HI.out HBI.out
          obtain ⟨ad3, e3, y0, y1, y2⟩ := QPt.at_T64 hC ((l.length : Int) + (m : Int)) (by omega) (by omega)
          have hrd : QPt.rd_T64 (l ++ marksW 4) ((l.length : Int) + (m : Int)) = markW m := by
            have hn : ((l.length : Int) + (m : Int)).toNat = l.length + m := by omega
            have hml' : m < (marksW 4).length := by rw [marksW_len]; exact hml
            simp [QPt.rd_T64, hn, List.getD_eq_getElem?_getD, marksW, hml]
          rw [hrd] at y0 y1 y2
          unfold markW at y0 y1 y2
          simp only at y0 y1 y2
          subst e3
          have hn : ((l.length : Int) + (m : Int)).toNat = l.length + m := by omega
          rw [hn] at y0 y1 y2
          clear hC hrd
          go_wp2_with fail
          go_quiet ((go_at_call 47; exact Calls.quiet_of_same ((word_calls' _ m (by omega) _ (by omega)).mono fun _ _ h => ⟨h.1, h.2⟩)))
          go_wp2_with fail
          go_roundw
          case rel => exact ⟨m + 1, by omega, by go_num, ⟨by repeat (first | exact HBI.out | apply pw_below_drewN | apply below_drew | exact HBI.out.alloc HBI.out.size _)⟩⟩
          case measure => simp [intOf]; omega
        · go_wp2_with fail
          go_roundw
          case rel => exact ⟨k + 1, by omega, by go_num, HBO⟩
          case measure => simp [intOf]; omega
    · clear hc13
      go_wp2_with fail
      go_ret
      exact ⟨rfl, HB.out⟩
set_option maxHeartbeats 2000000 in
set_option maxRecDepth 100000 in
theorem holdGroups_calls (w : World) (g : Nat) (G : List (List Wr)) (hR : RoomG w g G) (hG : G.length ≤ 100000) :
    Calls Try.prog 36 #[.pointer (some ⟨g, 0, none⟩)] w fun e w' => e = .returned (.bool true) ∧ Below w.heap.size w w' := by
  obtain ⟨A1, c1, A2, c2, A3, c3, A4, c4, hg, -, -, hC3, hC4⟩ := hR
  have HG := Aside0.mk hg
  have HC3 := Aside0.mk hC3
  have HC4 := Aside0.mk hC4
  clear hg hC3 hC4
  go_enter Try.func36, Try.ntmps36
  go_wp2_with fail
  go_loopw [3] (fun i wr => ∃ k : Nat, k ≤ 1 ∧ i = .int .i64 k ∧ Aside0 (Below w.heap.size w wr)) (fun i _ => 1 - (intOf i).toNat)
  case atStart => exact ⟨0, Nat.zero_le _, rfl, ⟨Below.refl _ _⟩⟩
  case round =>
    obtain ⟨k, hk, rfl, HB⟩ := hrel
    have HG1 := Aside0.mk ((HB.out.block _ (blk_lt HG.out)).trans HG.out)
    have hc12 : wr.cell? ⟨g, 22, none⟩ = some (.slice A3 1 c3) := by rw [blk_cell HG1.out]; rfl
    have hc13 : wr.cell? ⟨g, 23, none⟩ = some (.slice A4 1 c4) := by rw [blk_cell HG1.out]; rfl
    by_cases hlt : k < 1
    · obtain rfl : k = 0 := by omega
      obtain ⟨ad2, e2, hx2⟩ := int_at (Kd.C_below HC4.out HB.out) 0 (by decide)
      obtain ⟨ad1, A0, c0, e1, hx1, hl1, hi1⟩ := QPt.at_L22 (Kd.C_below HC3.out HB.out) 0 (by decide) (by decide)
      subst e1 e2
      have hr1 : QPt.rd_L22 [G ++ marksG] 0 = G ++ marksG := rfl
      have hr2 : [(G.length : Int)].getD 0 0 = (G.length : Int) := rfl
      have hle : (G ++ marksG).length = G.length + 40 := by simp [marksG]
      rw [hr1] at hx1 hi1
      rw [hr2] at hx2
      rw [hle] at hx1 hi1
      have hz : ∀ a : Addr, a.add 0 = a := fun a => by unfold Addr.add; simp
      simp only [Int.toNat_zero] at hx1
      rw [hz] at hx1 hx2
      have HI := Aside0.mk hi1
      have HLE := Aside0.mk hle
      have hb1 : ad1.block < wr.heap.size := World.block_lt_of_cell? wr _ hx1
      have HX1 := Aside0.mk hx1
      clear hr1 hr2 hi1 hl1 hle hz
      go_wp2_with fail
      clear hx1 hx2 hc12 hc13
      obtain ⟨wo, rfl⟩ : ∃ wo : World, wo = wr := ⟨_, rfl⟩
      go_loopw [5] (fun i wi => ∃ m : Nat, m ≤ 40 ∧ i = .int .i64 ((G.length : Int) + (m : Int)) ∧ Aside0 (Below wo.heap.size wo wi)) (fun i _ => G.length + 40 - (intOf i).toNat)
      case atStart => exact ⟨0, Nat.zero_le _, by simp, ⟨Below.refl _ _⟩⟩
      case round =>
        obtain ⟨m, hm, rfl, HBI⟩ := hrel
        have HBO := Aside0.mk (HB.out.trans (HBI.out.mono HB.out.size))
        have HG2 := Aside0.mk ((HBO.out.block _ (blk_lt HG.out)).trans HG.out)
        have hc12 : wr.cell? ⟨g, 22, none⟩ = some (.slice (some ad1) 1 c3) := by rw [blk_cell HG2.out]; rfl
        have hx1 : wr.cell? ad1 = some (.slice A0 (G.length + 40) c0) := (HBI.out.cell hb1).trans HX1.out
        by_cases hml : m < 40
        · have hC := Kd.C_below HI.out HBI.out
          obtain ⟨ad3, A5, c5, e3, hx3, hl3, hi3⟩ := QPt.at_L3 hC ((G.length : Int) + (m : Int)) (by omega) (by omega)
          have hn : ((G.length : Int) + (m : Int)).toNat = G.length + m := by omega
          have hrd : QPt.rd_L3 (G ++ marksG) ((G.length : Int) + (m : Int)) = [markW m] := by
            simp [QPt.rd_L3, hn, List.getD_eq_getElem?_getD, marksG, hml]
          rw [hrd] at hx3 hl3 hi3
          subst e3
          obtain ⟨ad4, e4, y0, y1, y2⟩ := QPt.at_T64 hi3 0 (by decide) (by simp)
          have hrd2 : QPt.rd_T64 [markW m] 0 = markW m := rfl
          rw [hrd2] at y0 y1 y2
          unfold markW at y0 y1 y2
          simp only [Int.toNat_zero, Nat.zero_mul] at y0 y1 y2
          have hz : ad4.add 0 = ad4 := by unfold Addr.add; simp
          rw [hz] at y0 y1 y2
          subst e4
          rw [hn] at hx3
          simp only [List.length_singleton] at hx3
          clear hC hrd hrd2 hi3 hl3 hz
          go_wp2_with fail
          go_quiet ((go_at_call 47; exact Calls.quiet_of_same ((word_calls' _ m (by omega) _ (by omega)).mono fun _ _ h => ⟨h.1, h.2⟩)))
          go_wp2_with fail
          go_roundw
          case rel => exact ⟨m + 1, by omega, by go_num, ⟨by repeat (first | exact HBI.out | apply pw_below_drewN | apply below_drew | exact HBI.out.alloc HBI.out.size _)⟩⟩
          case measure => simp [intOf]; omega
        · go_wp2_with fail
          go_roundw
          case rel => exact ⟨1, by omega, by go_num, HBO⟩
          case measure => simp [intOf]
    · clear hc13
      go_wp2_with fail
      go_ret
      exact ⟨rfl, HB.out⟩
end Go.Proofs.Ytnamanalacjhnaa.RmG
