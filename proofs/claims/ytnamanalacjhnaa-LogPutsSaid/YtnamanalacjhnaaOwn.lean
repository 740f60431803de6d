/- Lemmas of this claim's own, used by its walks. -/
import Derived.Test.YtnamanalacjhnaaProg
import Derived.Test.YtnamanalacjhnaaWWords
import Derived.Test.YtnamanalacjhnaaWMore
import Derived.Deep.DeepMust
import Derived.OrdersHeld
import Derived.Deep.QuietTactic
import Derived.BigQuiet
namespace Go.Proofs.Ytnamanalacjhnaa.Own
open Go.RowKit Go.Proofs.YtnamanalacjhnaaW.PrintWords
set_option linter.unusedVariables false


def Bytes (l : List Int) : Prop := ∀ x ∈ l, 0 ≤ x ∧ x ≤ 255

theorem bytes_wf {l : List Int} (h : ∀ x ∈ l, (Lit.int .u8 x).wf = true) : Bytes l := fun x hx => by
  have := h x hx
  simpa [Lit.wf, IntKind.min, IntKind.max, IntKind.signed, IntKind.bits] using this

/-- 'make([]T, n, c)', T a scalar: n zeros, room for c. -/
theorem R_make_cap {P : Program} {ops : Array Oper} {rest : List Oper} {o : Oper} {a : Act} {Q : Exit → Act → World → Prop} {α : Type} {enc : α → Value} {h1 : ∀ x, (enc x).oneCell' = true}
    {w0 W : World} (base e : Nat) (hgd : o.guard = none) {N : Tmp} (hd : o.dst = some N) (t : TypeId) (x y : Operand) (ho : o.op = .makeSlice t x y) (n c : Int) (hx : a.eval x = .int .i64 n) (hy : a.eval y = .int .i64 c)
    (ht : P.underlying t = some (.slice e)) (z0 : α) (bytes : Nat) (hinfo : (P.info? e).map (fun i => (i.zero, i.size, i.bytes)) = some (some (enc z0), 1, bytes)) (hz : (enc z0).cells = #[enc z0]) (hb0 : 0 < bytes)
    {ok : Nat → Prop} (hfresh : ok W.heap.size) (h0 : 0 ≤ n) (hnc : n ≤ c) (hl : c.toNat * bytes ≤ 281474976710656) (HB : Below base w0 W) (hbase : base ≤ W.heap.size)
    (h : ∀ v1 w1, (Kd.scalar enc h1).R e w1 base ok v1 (List.replicate n.toNat z0) → Below base w0 w1 → W.grownBy w1 none → (∃ b, v1.ownBlock = some b ∧ W.heap.size ≤ b) → wpList P ops Q rest (a.put o.dst v1) w1) : wpList P ops Q (o :: rest) a W := by
  obtain ⟨m, rfl⟩ := Int.eq_ofNat_of_zero_le h0
  obtain ⟨k, rfl⟩ := Int.eq_ofNat_of_zero_le (Int.le_trans h0 hnc)
  simp only [Int.toNat_natCast] at hl h
  obtain ⟨i0, hi, hzz⟩ := Option.map_eq_some_iff.1 hinfo
  simp only [Prod.mk.injEq] at hzz
  obtain ⟨hz0, hz1, hz2⟩ := hzz
  have hk : k ≤ 281474976710656 := Nat.le_trans (Nat.le_mul_of_pos_right _ hb0) hl
  have hmk : m ≤ k := by omega
  have hr := run_make (P := P) W t e i0 (enc z0) ht hi hz0 .i64 .i64 (m : Int) (k : Int) (by omega) (by omega)
    (by
      have h3 : ((i0.bytes * k : Nat) : Int) ≤ 281474976710656 := by rw [hz2, Nat.mul_comm]; omega
      rwa [Int.natCast_mul] at h3) (by omega)
  simp only [Int.toNat_natCast] at hr
  rw [hz1, Nat.mul_one] at hr
  refine Kd.event_run (v := .slice (some ⟨W.heap.size, 0, none⟩) m k) (w1 := W.alloc (.cells (madeCells (enc z0).cells k) e)) hgd ?_ (h _ _ ⟨fun q hq => ?_, (madeCells (enc z0).cells m).toList, ?_, ?_⟩ (HB.alloc hbase _) (World.grownBy_alloc W _ none) ⟨W.heap.size, by simp [Value.ownBlock], Nat.le_refl _⟩)
  · simp [execOp, ho, hx, hy, hr]
  · have : W.heap.size = q := by simpa [Value.ownBlock] using hq
    subst this
    exact hfresh
  · refine ⟨by simp [size_madeCells, Kd.scalar], .inr ⟨W.heap.size, k, madeCells (enc z0).cells k, by simp, hbase, heap_alloc_new W _, by simpa using hmk, by simp [maxLen]; omega, by simp [size_madeCells, Kd.scalar], ?_⟩⟩
    rw [hz]
    apply List.ext_getElem
    · simp [size_madeCells, Kd.scalar]; omega
    · intro i h1 h2
      simp [madeCells, Nat.mod_one]
  · have := Kd.reps_made (R := (Kd.scalar enc h1).M W base (fun k => ok k ∧ some k ≠ (Value.slice (some ⟨W.heap.size, 0, none⟩) m k).ownBlock)) (z := enc z0) (size := 1) (z0 := z0) (by rw [hz]; rfl) (by decide) (by rw [hz]; rfl) m
    rw [Nat.mul_one] at this
    exact this
end Go.Proofs.Ytnamanalacjhnaa.Own
