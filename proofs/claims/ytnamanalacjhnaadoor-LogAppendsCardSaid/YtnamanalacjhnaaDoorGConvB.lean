/- '[]byte("..")' of a constant: the row's mark (this claim's own lemmas). -/
import Derived.Test.YtnamanalacjhnaaDoorGSum
namespace Go.Proofs.YtnamanalacjhnaaDoor.G
open Go.RowKit Go.Proofs.YtnamanalacjhnaaDoorW.PrintWords Go.Proofs.YtnamanalacjhnaaDoor.Own
set_option linter.unusedVariables false
theorem freeze_block (w : World) (a : Addr) (n k : Nat) (h : k ≠ a.block) : (w.freeze a n).heap[k]? = w.heap[k]? := by
  unfold World.freeze
  split
  · rfl
  · simp [Array.getElem?_modify, Ne.symm h]
theorem freeze_size (w : World) (a : Addr) (n : Nat) : (w.freeze a n).heap.size = w.heap.size := by
  unfold World.freeze
  split
  · rfl
  · simp
theorem freeze_cell (w : World) (a : Addr) (n : Nat) (x : Addr) : (w.freeze a n).cell? x = w.cell? x := by
  by_cases h : x.block = a.block
  · unfold World.freeze
    split
    · rfl
    · unfold World.cell?
      simp only [Array.getElem?_modify, h, if_true]
      cases hq : w.heap[a.block]? with
      | none => rfl
      | some o => cases o <;> rfl
  · unfold World.cell?
    rw [freeze_block w a n x.block h]
theorem conv_mark {P : Program} {t e base : Nat} {w : World} {ok : Nat → Prop} {v : Value} {xs : List Int} (ht : P.underlying t = some (.slice e)) (he : P.underlying e = some (.int .u8)) (h : Kd.R (Kd.int .u8) e w base ok v xs) (hx : 0 < xs.length) :
    ∃ A c w2, v = .slice A xs.length c ∧ (convert t t (.slice A xs.length c)).run P w = .ok (.slice A xs.length c) w2 ∧ xs.length ≤ c ∧ Kd.C (Kd.int .u8) w2 A xs.length xs ∧ Below base w w2 := by
  obtain ⟨A, c, rfl, h1, h2⟩ := Kd.R_reads h
  obtain ⟨inner, hi⟩ := Kd.R_own h
  obtain ⟨hl, hh⟩ := hi
  rcases hh with ⟨hv, h0⟩ | ⟨g, cap, cur, hv, hb, hg, hn, hm, hs, ht2⟩
  · omega
  · injection hv with e1 e2 e3
    subst e1 e3
    refine ⟨some ⟨g, 0, none⟩, c, w.freeze { block := g, off := cur.size } 1, rfl, ?_, h1, ?_, ?_⟩
    · have hsh : w.shape? g = some (e, cur.size) := by unfold World.shape?; rw [hg]
      simp [convert, run_underlying ht, run_underlying he, markStringish, hsh]
    · have hr := Kd.reads_of_C (enc := Value.int .u8) (d := (0 : Int)) (h1 := fun _ => rfl) h2
      refine Kd.C_of_reads (enc := Value.int .u8) (d := (0 : Int)) (h1 := fun _ => rfl) ⟨hr.1, hr.2.1, fun hp => ?_⟩
      obtain ⟨ad, ha, hc⟩ := hr.2.2 hp
      exact ⟨ad, ha, fun i hi => by rw [freeze_cell]; exact hc i hi⟩
    · refine ⟨?_, ?_, ?_, ?_, fun k hk => freeze_block w _ _ k (by show k ≠ g; omega)⟩
      · unfold World.freeze; split <;> rfl
      · unfold World.freeze; split <;> rfl
      · unfold World.freeze; split <;> rfl
      · rw [freeze_size]; exact Nat.le_refl _
end Go.Proofs.YtnamanalacjhnaaDoor.G
