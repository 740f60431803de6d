/- Lemmas of this claim's own, put together: Own, Spec, GSum, GConvB, Crc, Four, LogP, Wk, QBkx0, QBkx3, QBkx4, QBkx1. -/
import Derived.Test.YtnamanalacjhnaaDoorProg
import Derived.Test.YtnamanalacjhnaaDoorWWords
import Derived.Test.YtnamanalacjhnaaDoorWMore
import Derived.Deep.DeepMust
import Derived.OrdersHeld
import Derived.Deep.QuietTactic
import Derived.BigQuiet
import Derived.Laws.BitsAllLaws
import Derived.Below
import Derived.Deep.Draws
import Derived.Deep.AppendLies
import Derived.Maps.AppendAt
import Derived.OwnWalk
import Derived.Laws.BytesArg
import Derived.Laws.MakeOwn
import Derived.Laws.OwnMore
import Derived.Deep.OwnRows
import Derived.Tactics
import Derived.Lib.ConvBytes
import Derived.Laws.Slices
import Derived.WalkKit
import Derived.KernelRfl
import Derived.RowKit3
import Derived.Deep.LoopGhost
import Derived.WideLaws
import Derived.Deep.DeepCutAuto
import Derived.Deep.CutBlock
import Derived.Deep.RegionHeld3
import Derived.Laws.Rows
import Derived.Lib.AppendStr
import Derived.ArgAppend
import Derived.Laws.IdiomCopy
import Derived.Laws.BitsLemmas
import Derived.RowKit
import Derived.Test.YtnamanalacjhnaaDoorWLast
import Derived.Test.YtnamanalacjhnaaDoorWTab
import Derived.Test.YtnamanalacjhnaaDoorWFour
import Derived.Test.YtnamanalacjhnaaDoorWQPut
import Derived.Test.YtnamanalacjhnaaDoorWApart
import Derived.Test.YtnamanalacjhnaaDoorWArr
import Derived.Test.YtnamanalacjhnaaDoorWZeros
import Derived.Test.YtnamanalacjhnaaDoorWFoot
import Derived.Test.YtnamanalacjhnaaDoorWKept
import Derived.Test.YtnamanalacjhnaaDoorWShare
import Derived.Test.YtnamanalacjhnaaDoorWN
import Derived.Test.YtnamanalacjhnaaDoorWFootNe
import Derived.Test.YtnamanalacjhnaaDoorWAt
import Derived.Test.YtnamanalacjhnaaDoorWEqStruct
import Derived.Test.YtnamanalacjhnaaDoorWRepsOne
import Derived.Test.YtnamanalacjhnaaDoorWInv
import Derived.Test.YtnamanalacjhnaaDoorWInvWords
import Derived.Test.YtnamanalacjhnaaDoorWGuard
import Derived.Test.YtnamanalacjhnaaDoorWNEv
/- Lemmas of this claim's own, used by its walks. -/
namespace Go.Proofs.YtnamanalacjhnaaDoor.Own
open Go.RowKit Go.Proofs.YtnamanalacjhnaaDoorW.PrintWords
set_option linter.unusedVariables false

/-- The numbers of the table of four bits' sums. -/
def nibs : List Int := [0, 274646895, 549293790, 820201905, 1098587580, 1361435347, 1640403810, 1905808397, 2197175160, 2460548119, 2722870694, 2987750089, 3280807620, 3553878443, 3811616794, 4084100981]
/-- The table lies in the world as the program's text lays it. -/
def GT (w : World) : Prop := ∀ i : Nat, i < 16 → w.cell? ⟨0, i, none⟩ = some (.int .u32 (nibs.getD i 0))
theorem GT.below {w w1 : World} (h : GT w) (hb : Below w.heap.size w w1) : GT w1 := fun i hi => pw_cell_below hb (h i hi)
theorem GT.drewN {w : World} (h : GT w) (n : Nat) : GT (w.drewN n) := h

def Bytes (l : List Int) : Prop := ∀ x ∈ l, 0 ≤ x ∧ x ≤ 255

theorem bytes_wf {l : List Int} (h : ∀ x ∈ l, (Lit.int .u8 x).wf = true) : Bytes l := fun x hx => by
  have := h x hx
  simpa [Lit.wf, IntKind.min, IntKind.max, IntKind.signed, IntKind.bits] using this

/-- 'make([]T, n, c)', T a scalar: n zeros, room for c. -/
theorem R_make_cap {P : Program} {ops : Array Oper} {rest : List Oper} {o : Oper} {a : Act} {Q : Exit → Act → World → Prop} {α : Type} {enc : α → Value} {h1 : ∀ x, (enc x).oneCell' = true}
    {w0 W : World} (base e : Nat) (hgd : o.guard = none) {N : Tmp} (hd : o.dst = some N) (t : TypeId) (x y : Operand) (ho : o.op = .makeSlice t x y) (n c : Int) (hx : a.eval x = .int .i64 n) (hy : a.eval y = .int .i64 c)
    (ht : P.underlying t = some (.slice e)) (z0 : α) (bytes : Nat) (hinfo : (P.info? e).map (fun i => (i.zero, i.size, i.bytes)) = some (some (enc z0), 1, bytes)) (hz : (enc z0).cells = #[enc z0]) (hb0 : 0 < bytes)
    {ok : Nat → Prop} (hfresh : ok W.heap.size) (h0 : 0 ≤ n) (hnc : n ≤ c) (hl : c.toNat * bytes ≤ 281474976710656) (HB : Below base w0 W) (hbase : base ≤ W.heap.size)
    (h : ∀ v1 w1, (Kd.scalar enc h1).R e w1 base ok v1 (List.replicate n.toNat z0) → Below base w0 w1 → W.grownBy w1 none → (∃ b, v1.ownBlock = some b ∧ W.heap.size ≤ b) → wpList P ops Q rest (a.put o.dst v1) w1) : wpList P ops Q (o :: rest) a W := by
  obtain ⟨m, rfl⟩ := Int.eq_ofNat_of_zero_le h0
  obtain ⟨k, rfl⟩ := Int.eq_ofNat_of_zero_le (Int.le_trans h0 hnc)
  simp only [Int.toNat_natCast] at hl h
  obtain ⟨i0, hi, hzz⟩ := Option.map_eq_some_iff.1 hinfo
  simp only [Prod.mk.injEq] at hzz
  obtain ⟨hz0, hz1, hz2⟩ := hzz
  have hk : k ≤ 281474976710656 := Nat.le_trans (Nat.le_mul_of_pos_right _ hb0) hl
  have hmk : m ≤ k := by omega
  have hr := run_make (P := P) W t e i0 (enc z0) ht hi hz0 .i64 .i64 (m : Int) (k : Int) (by omega) (by omega)
    (by
      have h3 : ((i0.bytes * k : Nat) : Int) ≤ 281474976710656 := by rw [hz2, Nat.mul_comm]; omega
      rwa [Int.natCast_mul] at h3) (by omega)
  simp only [Int.toNat_natCast] at hr
  rw [hz1, Nat.mul_one] at hr
  refine Kd.event_run (v := .slice (some ⟨W.heap.size, 0, none⟩) m k) (w1 := W.alloc (.cells (madeCells (enc z0).cells k) e)) hgd ?_ (h _ _ ⟨fun q hq => ?_, (madeCells (enc z0).cells m).toList, ?_, ?_⟩ (HB.alloc hbase _) (World.grownBy_alloc W _ none) ⟨W.heap.size, by simp [Value.ownBlock], Nat.le_refl _⟩)
  · simp [execOp, ho, hx, hy, hr]
  · have : W.heap.size = q := by simpa [Value.ownBlock] using hq
    subst this
    exact hfresh
  · refine ⟨by simp [size_madeCells, Kd.scalar], .inr ⟨W.heap.size, k, madeCells (enc z0).cells k, by simp, hbase, heap_alloc_new W _, by simpa using hmk, by simp [maxLen]; omega, by simp [size_madeCells, Kd.scalar], ?_⟩⟩
    rw [hz]
    apply List.ext_getElem
    · simp [size_madeCells, Kd.scalar]; omega
    · intro i h1 h2
      simp [madeCells, Nat.mod_one]
  · have := Kd.reps_made (R := (Kd.scalar enc h1).M W base (fun k => ok k ∧ some k ≠ (Value.slice (some ⟨W.heap.size, 0, none⟩) m k).ownBlock)) (z := enc z0) (size := 1) (z0 := z0) (by rw [hz]; rfl) (by decide) (by rw [hz]; rfl) m
    rw [Nat.mul_one] at this
    exact this
end Go.Proofs.YtnamanalacjhnaaDoor.Own
/- Plain functions on lists of bytes: numbers, texts as the codec lays and reads them (this claim's own definitions; no program in sight). -/
namespace Go.Proofs.YtnamanalacjhnaaDoor.Own
open Go.RowKit Go.Proofs.YtnamanalacjhnaaDoorW.PrintWords Go.Proofs.YtnamanalacjhnaaDoorW.PrintMore
set_option linter.unusedVariables false

def okB (l : List Int) : Bool := l.all fun x => decide (0 ≤ x ∧ x ≤ 255)
theorem okB_iff {l : List Int} : okB l = true ↔ Bytes l := by simp [okB, Bytes, List.all_eq_true]

theorem u64_nat {n : Nat} (h : n < 18446744073709551616) : IntKind.u64.wrap (n : Int) = (n : Int) := by
  simp [IntKind.wrap, IntKind.bits, IntKind.signed]
  omega
/-- A number's bytes. -/
def numL (n : Nat) : List Int := if n < 128 then [(n : Int)] else ((n % 128 + 128 : Nat) : Int) :: numL (n / 128)
termination_by n
decreasing_by omega
theorem numL_small {n : Nat} (h : n < 128) : numL n = [(n : Int)] := by rw [numL, if_pos h]
theorem numL_big {n : Nat} (h : ¬ n < 128) : numL n = ((n % 128 + 128 : Nat) : Int) :: numL (n / 128) := by rw [numL, if_neg h]
theorem numL_bytes (n : Nat) : Bytes (numL n) := by
  induction n using Nat.strongRecOn with
  | _ n ih =>
    by_cases h : n < 128
    · rw [numL_small h]
      intro x hx
      obtain rfl := List.mem_singleton.1 hx
      omega
    · rw [numL_big h]
      intro x hx
      rcases List.mem_cons.1 hx with rfl | hx
      · omega
      · exact ih (n / 128) (by omega) x hx
theorem numL_len (d : Nat) : ∀ n : Nat, n < 128 ^ (d + 1) → (numL n).length ≤ d + 1 := by
  induction d with
  | zero => intro n h; rw [numL_small (by omega)]; simp
  | succ d ih =>
    intro n h
    by_cases h1 : n < 128
    · rw [numL_small h1]; simp
    · rw [numL_big h1]
      have := ih (n / 128) (by rw [Nat.pow_succ] at h; omega)
      simp only [List.length_cons]
      omega
theorem numL_len10 {n : Nat} (h : n < 18446744073709551616) : (numL n).length ≤ 10 := numL_len 9 n (by omega)
theorem numL_pos (n : Nat) : 1 ≤ (numL n).length := by
  by_cases h : n < 128
  · rw [numL_small h]; simp
  · rw [numL_big h]; simp

/-- A number read: from place i on, with what was read so far. -/
def uintR : List Int → Nat → Nat → Nat × Nat × Nat
  | [], _, _ => (0, 0, 20)
  | c :: r, i, a => if (c = 0 ∧ 0 < i) ∨ (i = 9 ∧ c ≠ 1) then (0, 0, 21) else if c < 128 then (a + c.toNat % 128 * 128 ^ i, i + 1, 0) else uintR r (i + 1) (a + c.toNat % 128 * 128 ^ i)
def uintN (l : List Int) : Nat × Nat × Nat := uintR l 0 0
def i3 (x : Nat × Nat × Nat) : Int × Int × Int := ((x.1 : Int), (x.2.1 : Int), (x.2.2 : Int))
def uintL (l : List Int) : Int × Int × Int := i3 (uintN l)

theorem or128 (a : Nat) (h : a < 256) : a ||| 128 = a % 128 + 128 := by
  have h1 : a % 128 ||| 128 = a % 128 + 128 := by
    rw [Nat.or_comm, ← Nat.two_pow_add_eq_or_of_lt (i := 7) (by omega) 1]
    omega
  have h2 : a ||| 128 = (a % 128) ||| 128 := by
    apply Nat.eq_of_testBit_eq
    intro i
    rw [Nat.testBit_or, Nat.testBit_or, show (128 : Nat) = 2 ^ 7 from rfl, Nat.testBit_mod_two_pow, Nat.testBit_two_pow]
    by_cases hi : i < 7
    · simp [hi]
    · by_cases h7 : 7 = i
      · simp [h7]
      · have : a.testBit i = false := Nat.testBit_lt_two_pow (Nat.lt_of_lt_of_le h (show 2 ^ 8 ≤ 2 ^ i from Nat.pow_le_pow_right (by decide) (by omega)))
        simp [this]
  rw [h2, h1]
theorem own_or128 (x : Int) (h : 0 ≤ x) : Go.bits .or .u8 (x % 256) 128 = ((x.toNat % 128 + 128 : Nat) : Int) := by
  obtain ⟨a, rfl⟩ := Int.eq_ofNat_of_zero_le h
  rw [show ((a : Int) % 256) = ((a % 256 : Nat) : Int) by omega, show (128 : Int) = ((128 : Nat) : Int) from rfl, u8_or_nat _ _ (by omega) (by omega), or128 _ (by omega)]
  have : a % 256 % 128 = a % 128 := by omega
  rw [this]
  rfl
theorem uintR_spec (l : List Int) (hl : Bytes l) : ∀ i a, i ≤ 9 → a < 128 ^ i → (uintR l i a).1 < 18446744073709551616 ∧ (uintR l i a).2.1 ≤ l.length + i ∧ (uintR l i a).2.1 ≤ 10 := by
  induction l with
  | nil => intro i a _ _; simp [uintR]
  | cons c r ih =>
    intro i a hi ha
    have hc := hl c (by simp)
    have hp : 128 ^ i ≤ 128 ^ 9 := Nat.pow_le_pow_right (by decide) hi
    have h9 : (128 : Nat) ^ 9 = 9223372036854775808 := by decide
    have h8 : i ≤ 8 → 128 ^ i ≤ 72057594037927936 := fun h => Nat.le_trans (Nat.pow_le_pow_right (by decide) h) (by decide)
    simp only [uintR]
    by_cases hz : c = 0 ∧ 0 < i ∨ i = 9 ∧ c ≠ 1
    · rw [if_pos hz]; simp
    · rw [if_neg hz]
      by_cases h1 : c < 128
      · rw [if_pos h1]
        refine ⟨?_, by simp; omega, by simp; omega⟩
        simp only
        rcases Nat.lt_or_ge i 9 with h | h
        · have h2 : c.toNat % 128 * 128 ^ i ≤ 127 * 72057594037927936 := Nat.mul_le_mul (by omega) (h8 (by omega))
          omega
        · obtain rfl : i = 9 := by omega
          have : c = 1 := by omega
          subst this
          simp
          omega
      · rw [if_neg h1]
        have := ih (fun y hy => hl y (by simp [hy])) (i + 1) (a + c.toNat % 128 * 128 ^ i) (by omega) (by
          rw [Nat.pow_succ]
          have : c.toNat % 128 * 128 ^ i ≤ 127 * 128 ^ i := Nat.mul_le_mul_right _ (by omega)
          omega)
        refine ⟨this.1, by simp; omega, this.2.2⟩
theorem uintN_spec (l : List Int) (hl : Bytes l) : (uintN l).1 < 18446744073709551616 ∧ (uintN l).2.1 ≤ l.length ∧ (uintN l).2.1 ≤ 10 := by
  have := uintR_spec l hl 0 0 (by omega) (by decide)
  simpa [uintN] using this
/-- A text read. -/
def textL (l : List Int) (most : Int) : ByteArray × Int × Int :=
  let u := uintN l
  if ¬ u.2.2 = 0 then ((⟨#[]⟩ : ByteArray), 0, (u.2.2 : Int))
  else if most < 0 ∨ (u.1 : Int) > most then ((⟨#[]⟩ : ByteArray), 0, 22)
  else if u.1 > l.length - u.2.1 then ((⟨#[]⟩ : ByteArray), 0, 20)
  else (strOfNums ((l.take (u.2.1 + u.1)).drop u.2.1), ((u.2.1 + u.1 : Nat) : Int), 0)
theorem own_and127 (x : Int) (h : 0 ≤ x ∧ x ≤ 255) : Go.bits .and .u8 x 127 = ((x.toNat % 128 : Nat) : Int) := by
  obtain ⟨a, rfl⟩ := Int.eq_ofNat_of_zero_le h.1
  rw [show (127 : Int) = ((127 : Nat) : Int) from rfl, u8_and_nat _ _ (by omega) (by omega)]
  have : a &&& 127 = a % 128 := Nat.and_two_pow_sub_one_eq_mod a 7
  rw [this]
  rfl
theorem pow128 (i : Nat) : 128 ^ i = 2 ^ (7 * i) := by rw [show 128 = 2 ^ 7 from rfl, ← Nat.pow_mul]
/-- One more group of seven bits. -/
theorem acc_step (a c i : Nat) (ha : a < 128 ^ i) (hc : c < 128) (hi : i ≤ 8 ∨ i = 9 ∧ c = 1) :
    Go.bits .or .u64 (a : Int) (shl .u64 (c : Int) (7 * (i : Int))) = ((a + c * 128 ^ i : Nat) : Int) ∧ a + c * 128 ^ i < 18446744073709551616 := by
  have hp : 128 ^ i ≤ 128 ^ 9 := Nat.pow_le_pow_right (by decide) (by omega)
  have h9 : (128 : Nat) ^ 9 = 9223372036854775808 := by decide
  have h8 : i ≤ 8 → 128 ^ i ≤ 72057594037927936 := fun h => Nat.le_trans (Nat.pow_le_pow_right (by decide) h) (by decide)
  have hlt : c * 128 ^ i ≤ 9223372036854775808 := by
    rcases hi with h | ⟨rfl, rfl⟩
    · have h1 : c * 128 ^ i ≤ 127 * 72057594037927936 := Nat.mul_le_mul (by omega) (h8 h)
      omega
    · omega
  have hsum : a + c * 128 ^ i < 18446744073709551616 := by omega
  refine ⟨?_, hsum⟩
  have hm : min (7 * (i : Int)).toNat IntKind.u64.bits = 7 * i := by
    have h1 : (7 * (i : Int)).toNat = 7 * i := by omega
    have h2 : IntKind.u64.bits = 64 := rfl
    rw [h1, h2]
    omega
  have hs : shl .u64 (c : Int) (7 * (i : Int)) = ((c * 128 ^ i : Nat) : Int) := by
    unfold shl
    rw [hm, show ((2 : Int) ^ (7 * i)) = ((128 ^ i : Nat) : Int) by rw [pow128]; simp]
    have hw : ∀ n : Nat, n < 18446744073709551616 → IntKind.u64.wrap (n : Int) = (n : Int) := fun n hn => by
      simp [IntKind.wrap, IntKind.bits, IntKind.signed]
      omega
    rw [← Int.natCast_mul]
    exact hw _ (by omega)
  rw [hs, u64_or_nat _ _ (by omega) (by omega)]
  congr 1
  rw [pow128] at ha ⊢
  rw [Nat.mul_comm c, Nat.add_comm a, Nat.two_pow_add_eq_or_of_lt ha, Nat.or_comm]
theorem acc_lt (a c i : Nat) (ha : a < 128 ^ i) (hc : c < 128) : a + c * 128 ^ i < 128 ^ (i + 1) := by
  rw [Nat.pow_succ]
  have : c * 128 ^ i ≤ 127 * 128 ^ i := Nat.mul_le_mul_right _ (by omega)
  omega
end Go.Proofs.YtnamanalacjhnaaDoor.Own
namespace Go.Proofs.YtnamanalacjhnaaDoor.G
open Go.RowKit Go.Proofs.YtnamanalacjhnaaDoorW.PrintWords Go.Proofs.YtnamanalacjhnaaDoor.Own
set_option linter.unusedVariables false
def nibv (x : Int) : Int := nibs.getD x.toNat 0
def sum1 (x : Int) : Int := bits .xor .u32 (nibv (bits .and .u32 x 15)) (x / 16)
def sumc (x c : Int) : Int := sum1 (sum1 (bits .xor .u32 x c))
def sumf (l : List Int) : Int := l.foldl sumc 4294967295
def sumF (l : List Int) : Int := bits .xor .u32 4294967295 (sumf l)
def U32 (x : Int) : Prop := 0 ≤ x ∧ x < 4294967296
theorem u32_xor_range {x y : Int} (hx : U32 x) (hy : U32 y) : U32 (bits .xor .u32 x y) := by
  obtain ⟨a, rfl⟩ := Int.eq_ofNat_of_zero_le hx.1
  obtain ⟨b, rfl⟩ := Int.eq_ofNat_of_zero_le hy.1
  have ha : a < 2 ^ 32 := by have := hx.2; omega
  have hb : b < 2 ^ 32 := by have := hy.2; omega
  rw [u32_xor_nat a b (by omega) (by omega)]
  have := Nat.xor_lt_two_pow ha hb
  constructor <;> omega
theorem and15 {x : Int} (hx : U32 x) : bits .and .u32 x 15 = x % 16 := by
  obtain ⟨a, rfl⟩ := Int.eq_ofNat_of_zero_le hx.1
  rw [show (15 : Int) = ((15 : Nat) : Int) from rfl, u32_and_nat a 15 (by have := hx.2; omega) (by omega)]
  have : a &&& 15 = a % 16 := Nat.and_two_pow_sub_one_eq_mod a 4
  omega
theorem nibv_range (x : Int) : U32 (nibv x) := by
  unfold nibv
  generalize x.toNat = n
  rcases Nat.lt_or_ge n 16 with h | h
  · have : n = 0 ∨ n = 1 ∨ n = 2 ∨ n = 3 ∨ n = 4 ∨ n = 5 ∨ n = 6 ∨ n = 7 ∨ n = 8 ∨ n = 9 ∨ n = 10 ∨ n = 11 ∨ n = 12 ∨ n = 13 ∨ n = 14 ∨ n = 15 := by omega
    rcases this with rfl | rfl | rfl | rfl | rfl | rfl | rfl | rfl | rfl | rfl | rfl | rfl | rfl | rfl | rfl | rfl <;> simp [nibs, U32]
  · rw [List.getD_eq_getElem?_getD, List.getElem?_eq_none (by simpa [nibs] using h)]
    simp [U32]
theorem sum1_range {x : Int} (hx : U32 x) : U32 (sum1 x) := u32_xor_range (nibv_range _) ⟨by have := hx.1; omega, by have := hx.2; omega⟩
theorem sumc_range {x c : Int} (hx : U32 x) (hc : 0 ≤ c ∧ c ≤ 255) : U32 (sumc x c) := sum1_range (sum1_range (u32_xor_range hx ⟨hc.1, by omega⟩))
theorem foldl_range (l : List Int) (x : Int) (hx : U32 x) (hl : Bytes l) : U32 (l.foldl sumc x) := by
  induction l generalizing x with
  | nil => exact hx
  | cons c l ih => exact ih _ (sumc_range hx (hl c (by simp))) (fun y hy => hl y (by simp [hy]))
theorem sumf_range {l : List Int} (hl : Bytes l) : U32 (sumf l) := foldl_range l _ (by simp [U32]) hl
theorem sumf_snoc (l : List Int) (k : Nat) (h : k < l.length) : sumf (l.take (k + 1)) = sumc (sumf (l.take k)) (rd l k) := by
  unfold sumf
  rw [List.take_succ_eq_append_getElem h, List.foldl_append]
  simp [rd, List.getD_eq_getElem?_getD, h]
theorem bytes_rd {l : List Int} (hl : Bytes l) (k : Nat) (h : k < l.length) : 0 ≤ rd l k ∧ rd l k ≤ 255 := by
  simp only [rd, Int.toNat_natCast, List.getD_eq_getElem?_getD, List.getElem?_eq_getElem h, Option.getD_some]
  exact hl _ (List.getElem_mem h)
theorem cellT {w : World} (h : GT w) {x : Int} (hx : U32 x) : 0 ≤ bits .and .u32 x 15 ∧ bits .and .u32 x 15 < 16 ∧ w.cell? ⟨0, (bits .and .u32 x 15).toNat, none⟩ = some (.int .u32 (nibv (bits .and .u32 x 15))) := by
  rw [and15 hx]
  exact ⟨by omega, by omega, h _ (by omega)⟩
set_option maxHeartbeats 400000 in
theorem sum_calls (A0 : Option Addr) (c0 : Nat) (l0 : List Int) (w : World) (hr0 : Kd.C (Kd.int .u8) w A0 l0.length l0) (hc0 : l0.length ≤ c0) (hl : Bytes l0) (hT : GT w) :
    Calls Tryd.prog 62 #[.slice A0 l0.length c0] w fun e w' => e = .returned (.int .u32 (sumF l0)) ∧ w' = w := by
  have hm := hr0.2.1
  have HR0 := Aside0.mk hr0
  have HT := Aside0.mk hT
  have HL := Aside0.mk hl
  clear hr0 hT hl
  go_enter Tryd.func62, Tryd.ntmps62
  go_wp2
  go_loop [3, 8] (fun x i => ∃ k : Nat, k ≤ l0.length ∧ i = .int .i64 k ∧ x = .int .u32 (sumf (l0.take k))) (fun _ i => l0.length - (intOf i).toNat)
  case atStart => exact ⟨0, Nat.zero_le _, rfl, rfl⟩
  case round =>
    obtain ⟨k, hk, rfl, rfl⟩ := hrel
    by_cases hlt : k < l0.length
    · obtain ⟨x, hx⟩ : ∃ x, x = sumf (l0.take k) := ⟨_, rfl⟩
      rw [← hx]
      have HX := Aside0.mk hx
      have hxb : U32 x := by rw [hx]; exact sumf_range (fun y hy => HL.out y (List.mem_of_mem_take hy))
      clear hx
      obtain ⟨ad, e1, hcell⟩ := Kd.at_int HR0.out (k : Int) (by omega) (by omega)
      cases e1
      simp only [Int.toNat_natCast] at hcell
      have HC := Aside0.mk (bytes_rd HL.out k hlt)
      obtain ⟨c, hc⟩ : ∃ c, c = rd l0 k := ⟨_, rfl⟩
      rw [← hc] at hcell
      have hcb := HC.out
      rw [← hc] at hcb
      have hy := u32_xor_range hxb ⟨hcb.1, by omega⟩
      have HCC := Aside0.mk hc
      clear hc HC
      obtain ⟨p1, p2, p3⟩ := cellT HT.out hy
      obtain ⟨q1, q2, q3⟩ := cellT HT.out (sum1_range hy)
      have HF := Aside0.mk (sumf_snoc l0 k hlt)
      have hcb1 := hcb.1
      have hcb2 := hcb.2
      have HY := Aside0.mk hy
      have HXB := Aside0.mk hxb
      unfold sum1 at q1 q2 q3
      clear hcb hy hxb
      go_wp2
      go_round
      case rel => exact ⟨k + 1, by omega, by go_num, by rw [HF.out, ← HX.out, ← HCC.out]; rfl⟩
      case measure => simp [intOf]; omega
    · have HXB := Aside0.mk (sumf_range HL.out)
      have HK : l0.take k = l0 := List.take_of_length_le (by omega)
      rw [HK]
      clear HK
      go_wp2
      go_ret
      exact ⟨rfl, rfl⟩
end Go.Proofs.YtnamanalacjhnaaDoor.G
/- '[]byte("..")' of a constant: the row's mark (this claim's own lemmas). -/
namespace Go.Proofs.YtnamanalacjhnaaDoor.G
open Go.RowKit Go.Proofs.YtnamanalacjhnaaDoorW.PrintWords Go.Proofs.YtnamanalacjhnaaDoor.Own
set_option linter.unusedVariables false
theorem freeze_block (w : World) (a : Addr) (n k : Nat) (h : k ≠ a.block) : (w.freeze a n).heap[k]? = w.heap[k]? := by
  unfold World.freeze
  split
  · rfl
  · simp [Array.getElem?_modify, Ne.symm h]
theorem freeze_size (w : World) (a : Addr) (n : Nat) : (w.freeze a n).heap.size = w.heap.size := by
  unfold World.freeze
  split
  · rfl
  · simp
theorem freeze_cell (w : World) (a : Addr) (n : Nat) (x : Addr) : (w.freeze a n).cell? x = w.cell? x := by
  by_cases h : x.block = a.block
  · unfold World.freeze
    split
    · rfl
    · unfold World.cell?
      simp only [Array.getElem?_modify, h, if_true]
      cases hq : w.heap[a.block]? with
      | none => rfl
      | some o => cases o <;> rfl
  · unfold World.cell?
    rw [freeze_block w a n x.block h]
theorem conv_mark {P : Program} {t e base : Nat} {w : World} {ok : Nat → Prop} {v : Value} {xs : List Int} (ht : P.underlying t = some (.slice e)) (he : P.underlying e = some (.int .u8)) (h : Kd.R (Kd.int .u8) e w base ok v xs) (hx : 0 < xs.length) :
    ∃ A c w2, v = .slice A xs.length c ∧ (convert t t (.slice A xs.length c)).run P w = .ok (.slice A xs.length c) w2 ∧ xs.length ≤ c ∧ Kd.C (Kd.int .u8) w2 A xs.length xs ∧ Below base w w2 := by
  obtain ⟨A, c, rfl, h1, h2⟩ := Kd.R_reads h
  obtain ⟨inner, hi⟩ := Kd.R_own h
  obtain ⟨hl, hh⟩ := hi
  rcases hh with ⟨hv, h0⟩ | ⟨g, cap, cur, hv, hb, hg, hn, hm, hs, ht2⟩
  · omega
  · injection hv with e1 e2 e3
    subst e1 e3
    refine ⟨some ⟨g, 0, none⟩, c, w.freeze { block := g, off := cur.size } 1, rfl, ?_, h1, ?_, ?_⟩
    · have hsh : w.shape? g = some (e, cur.size) := by unfold World.shape?; rw [hg]
      simp [convert, run_underlying ht, run_underlying he, markStringish, hsh]
    · have hr := Kd.reads_of_C (enc := Value.int .u8) (d := (0 : Int)) (h1 := fun _ => rfl) h2
      refine Kd.C_of_reads (enc := Value.int .u8) (d := (0 : Int)) (h1 := fun _ => rfl) ⟨hr.1, hr.2.1, fun hp => ?_⟩
      obtain ⟨ad, ha, hc⟩ := hr.2.2 hp
      exact ⟨ad, ha, fun i hi => by rw [freeze_cell]; exact hc i hi⟩
    · refine ⟨?_, ?_, ?_, ?_, fun k hk => freeze_block w _ _ k (by show k ≠ g; omega)⟩
      · unfold World.freeze; split <;> rfl
      · unfold World.freeze; split <;> rfl
      · unfold World.freeze; split <;> rfl
      · rw [freeze_size]; exact Nat.le_refl _
end Go.Proofs.YtnamanalacjhnaaDoor.G
/- The sum by four bits at once is the sum bit by bit (plain numbers; this claim's own lemmas). -/
namespace Go.Proofs.YtnamanalacjhnaaDoor.G
open Go.RowKit Go.Proofs.YtnamanalacjhnaaDoorW.PrintWords Go.Proofs.YtnamanalacjhnaaDoor.Own
set_option linter.unusedVariables false
/-- One bit's step of the sum. -/
def stepN (x : Nat) : Nat := if x % 2 = 1 then x / 2 ^^^ 2197175160 else x / 2
theorem xor_half (a b : Nat) : (a ^^^ b) / 2 = a / 2 ^^^ b / 2 := by
  have := Nat.shiftRight_xor_distrib (a := a) (b := b) (i := 1)
  simpa [Nat.shiftRight_eq_div_pow] using this
theorem xor_odd (a b : Nat) : (a ^^^ b) % 2 = (a % 2) ^^^ (b % 2) := by
  have := Nat.xor_mod_two_pow (a := a) (b := b) (n := 1)
  simpa using this
theorem stepN_xor (a b : Nat) : stepN (a ^^^ b) = stepN a ^^^ stepN b := by
  unfold stepN
  rw [xor_half, xor_odd]
  rcases Nat.mod_two_eq_zero_or_one a with ha | ha <;> rcases Nat.mod_two_eq_zero_or_one b with hb | hb <;> rw [ha, hb] <;> simp
  · rw [Nat.xor_assoc]
  · rw [Nat.xor_assoc, Nat.xor_assoc]
    congr 1
    exact Nat.xor_comm _ _
  · rw [Nat.xor_assoc, ← Nat.xor_assoc 2197175160, Nat.xor_comm 2197175160, Nat.xor_assoc, Nat.xor_self, Nat.xor_zero]
theorem stepN_two (m : Nat) : stepN (2 * m) = m := by
  unfold stepN
  rw [if_neg (by omega)]
  omega
theorem split16 (x : Nat) : x = (16 * (x / 16)) ^^^ (x % 16) := by
  apply Nat.eq_of_testBit_eq
  intro i
  rw [Nat.testBit_xor, show (16 : Nat) = 2 ^ 4 from rfl, Nat.testBit_two_pow_mul, Nat.testBit_mod_two_pow, Nat.testBit_div_two_pow]
  by_cases h : i < 4
  · simp [h, show ¬ 4 ≤ i by omega]
  · simp [h, show 4 ≤ i by omega, show i - 4 + 4 = i by omega]
def step4 (x : Nat) : Nat := stepN (stepN (stepN (stepN x)))
theorem step4_xor (a b : Nat) : step4 (a ^^^ b) = step4 a ^^^ step4 b := by simp only [step4, stepN_xor]
theorem step4_low (i : Nat) (h : i < 16) : (step4 i : Int) = nibs.getD i 0 := by
  have : i = 0 ∨ i = 1 ∨ i = 2 ∨ i = 3 ∨ i = 4 ∨ i = 5 ∨ i = 6 ∨ i = 7 ∨ i = 8 ∨ i = 9 ∨ i = 10 ∨ i = 11 ∨ i = 12 ∨ i = 13 ∨ i = 14 ∨ i = 15 := by omega
  rcases this with rfl | rfl | rfl | rfl | rfl | rfl | rfl | rfl | rfl | rfl | rfl | rfl | rfl | rfl | rfl | rfl <;> decide
theorem step4_eq (x : Nat) (hx : x < 4294967296) : (step4 x : Int) = sum1 (x : Int) := by
  have h1 : step4 x = x / 16 ^^^ step4 (x % 16) := by
    conv => lhs; rw [split16 x, step4_xor]
    congr 1
    unfold step4
    rw [show 16 * (x / 16) = 2 * (2 * (2 * (2 * (x / 16)))) by omega, stepN_two, stepN_two, stepN_two, stepN_two]
  have hU : U32 (x : Int) := ⟨by omega, by omega⟩
  unfold sum1
  rw [and15 hU]
  have h2 := step4_low (x % 16) (by omega)
  have h3 : ((x : Int) % 16).toNat = x % 16 := by omega
  unfold nibv
  rw [h3, ← h2, show ((x : Int) / 16) = ((x / 16 : Nat) : Int) by omega]
  have hr := nibv_range ((x : Int) % 16)
  unfold nibv at hr
  rw [h3, ← h2] at hr
  rw [u32_xor_nat _ _ (by have := hr.2; omega) (by omega), h1, Nat.xor_comm]
end Go.Proofs.YtnamanalacjhnaaDoor.G
/- A sum's four bytes (this claim's own lemmas). -/
namespace Go.Proofs.YtnamanalacjhnaaDoor.G
open Go.RowKit Go.Proofs.YtnamanalacjhnaaDoorW.PrintWords Go.Proofs.YtnamanalacjhnaaDoor.Own
set_option linter.unusedVariables false
def fourL (x : Int) : List Int := [x % 256, x / 256 % 256, x / 65536 % 256, x / 16777216]
theorem bytes_four {x : Int} (h : U32 x) : Bytes (fourL x) := by
  obtain ⟨h0, h1⟩ := h
  intro y hy
  simp only [fourL, List.mem_cons, List.not_mem_nil, or_false] at hy
  rcases hy with rfl | rfl | rfl | rfl <;> omega
theorem four_eq {x : Int} (h : U32 x) : ([x % 256, (x / 256) % 256, (x / 65536) % 256, (x / 16777216) % 256] : List Int) = fourL x := by
  obtain ⟨h0, h1⟩ := h
  unfold fourL
  rw [show x / 16777216 % 256 = x / 16777216 by omega]
theorem bytes_app {l m : List Int} (hl : Bytes l) (hm : Bytes m) : Bytes (l ++ m) := fun y hy => by
  rcases List.mem_append.1 hy with h | h
  · exact hl y h
  · exact hm y h
theorem four_len (x : Int) : (fourL x).length = 4 := rfl
theorem sumF_range {l : List Int} (hl : Bytes l) : U32 (sumF l) := u32_xor_range (by simp [U32]) (sumf_range hl)
theorem bytes_take {l : List Int} (h : Bytes l) (n : Nat) : Bytes (l.take n) := fun y hy => h y (List.mem_of_mem_take hy)
theorem bytes_drop {l : List Int} (h : Bytes l) (n : Nat) : Bytes (l.drop n) := fun y hy => h y (List.mem_of_mem_drop hy)
end Go.Proofs.YtnamanalacjhnaaDoor.G
/- Plain functions of the log: how a record is laid in pieces (this claim's own definitions; no program in sight). -/
namespace Go.Proofs.YtnamanalacjhnaaDoor.Lg
open Go.RowKit Go.Proofs.YtnamanalacjhnaaDoorW.PrintWords Go.Proofs.YtnamanalacjhnaaDoor.Own Go.Proofs.YtnamanalacjhnaaDoor.G
set_option linter.unusedVariables false
/-- What a piece's sum is taken of. -/
def bodyL (kind : Int) (part : List Int) : List Int := [((part.length % 256 : Nat) : Int), ((part.length / 256 % 256 : Nat) : Int), kind] ++ part
def pieceL (kind : Int) (part : List Int) : List Int := fourL (sumF (bodyL kind part)) ++ bodyL kind part
def kindL (first last : Bool) : Int := if first then (if last then 1 else 2) else if last then 4 else 3
/-- The pieces of a record, the first one at a place of its block. -/
def piecesL (first : Bool) (place : Nat) (rec : List Int) : List Int :=
  if h : rec.length ≤ 505 - place ∨ 505 ≤ place then pieceL (kindL first true) rec
  else pieceL (kindL first false) (rec.take (505 - place)) ++ piecesL false 0 (rec.drop (505 - place))
termination_by rec.length
decreasing_by simp only [List.length_drop]; omega
def appendL (at' : Int) (rec : List Int) : List Int :=
  let a := (max at' 0).toNat % 512
  if 505 ≤ a then List.replicate (512 - a) 0 ++ piecesL true 0 rec else piecesL true a rec
theorem pieces_last {first : Bool} {place : Nat} {rec : List Int} (h : rec.length ≤ 505 - place) : piecesL first place rec = pieceL (kindL first true) rec := by rw [piecesL, dif_pos (.inl h)]
theorem pieces_more {first : Bool} {place : Nat} {rec : List Int} (h : 505 - place < rec.length) (hp : place ≤ 504) : piecesL first place rec = pieceL (kindL first false) (rec.take (505 - place)) ++ piecesL false 0 (rec.drop (505 - place)) := by rw [piecesL, dif_neg (by omega)]
theorem body_len (kind : Int) (part : List Int) : (bodyL kind part).length = part.length + 3 := by simp [bodyL]
theorem piece_len (kind : Int) (part : List Int) : (pieceL kind part).length = part.length + 7 := by
  unfold pieceL
  rw [List.length_append, body_len, four_len]
  omega
theorem body_bytes {kind : Int} {part : List Int} (hk : 0 ≤ kind ∧ kind ≤ 255) (h : Bytes part) : Bytes (bodyL kind part) := by
  refine bytes_app (fun y hy => ?_) h
  simp only [List.mem_cons, List.not_mem_nil, or_false] at hy
  rcases hy with rfl | rfl | rfl
  · omega
  · omega
  · exact hk
theorem piece_bytes {kind : Int} {part : List Int} (hk : 0 ≤ kind ∧ kind ≤ 255) (h : Bytes part) : Bytes (pieceL kind part) := bytes_app (bytes_four (sumF_range (body_bytes hk h))) (body_bytes hk h)
theorem kind_range (f l : Bool) : 0 ≤ kindL f l ∧ kindL f l ≤ 255 := by cases f <;> cases l <;> decide
theorem pieces_bytes (n : Nat) : ∀ (first : Bool) (place : Nat) (rec : List Int), rec.length ≤ n → place ≤ 504 → Bytes rec → Bytes (piecesL first place rec) := by
  induction n with
  | zero =>
    intro f p r hn hp h
    rw [pieces_last (by omega)]
    exact piece_bytes (kind_range _ _) h
  | succ n ih =>
    intro f p r hn hp h
    by_cases hl : r.length ≤ 505 - p
    · rw [pieces_last hl]
      exact piece_bytes (kind_range _ _) h
    · rw [pieces_more (by omega) hp]
      exact bytes_app (piece_bytes (kind_range _ _) (bytes_take h _)) (ih _ _ _ (by rw [List.length_drop]; omega) (by omega) (bytes_drop h _))
/-- How long the pieces are, at most. -/
theorem pieces_len (n : Nat) : ∀ (first : Bool) (place : Nat) (rec : List Int), rec.length ≤ n → place ≤ 504 → (piecesL first place rec).length ≤ rec.length + 7 * rec.length + 7 := by
  induction n with
  | zero =>
    intro f p r hn hp
    rw [pieces_last (by omega), piece_len]
    omega
  | succ n ih =>
    intro f p r hn hp
    by_cases hl : r.length ≤ 505 - p
    · rw [pieces_last hl, piece_len]
      omega
    · rw [pieces_more (by omega) hp, List.length_append, piece_len]
      have := ih false 0 (r.drop (505 - p)) (by rw [List.length_drop]; omega) (by omega)
      rw [List.length_drop] at this
      rw [List.length_take]
      omega
end Go.Proofs.YtnamanalacjhnaaDoor.Lg
/- Lists as the walks take them: read, owned, cut (this claim's own lemmas). -/
namespace Go.Proofs.YtnamanalacjhnaaDoor.Wk
open Go.RowKit Go.Proofs.YtnamanalacjhnaaDoorW.PrintWords Go.Proofs.YtnamanalacjhnaaDoor.Own
set_option linter.unusedVariables false
/-- A list that is read at A, n long, with room for c. -/
def Rd {α : Type} (d : Kd α) (w : World) (A : Option Addr) (n c : Nat) (l : List α) : Prop := l.length = n ∧ n ≤ c ∧ Kd.C d w A n l
section
variable {α : Type} {d : Kd α} {w w' : World} {A : Option Addr} {n c : Nat} {l : List α}
theorem Rd.step (h : Rd d w A n c l) (hb : Below w.heap.size w w') : Rd d w' A n c l := ⟨h.1, h.2.1, Kd.C_below h.2.2 hb⟩
theorem Rd.nil (d : Kd α) (w : World) : Rd d w none 0 0 [] := ⟨rfl, Nat.le_refl _, Kd.C_nil d w⟩
theorem Rd.of_R {e base : Nat} {ok : Nat → Prop} {v : Value} (h : Kd.R d e w base ok v l) : ∃ A n c, v = .slice A n c ∧ Rd d w A n c l ∧ Kd.R d e w base ok (.slice A n c) l := by
  obtain ⟨A, c, rfl, h1, h2⟩ := Kd.R_reads h
  exact ⟨A, l.length, c, rfl, ⟨rfl, h1, h2⟩, h⟩
theorem Rd.of_own {e base : Nat} {ok : Nat → Prop} (h : Kd.R d e w base ok (.slice A n c) l) : Rd d w A n c l := by
  obtain ⟨A', n', c', e1, h1, -⟩ := Rd.of_R h
  injection e1 with e2 e3 e4
  subst e2 e3 e4
  exact h1
theorem Rd.take (h : Rd d w A n c l) (m : Nat) (hm : m ≤ n) : Rd d w A m c (l.take m) := by
  obtain ⟨rfl, a2, a3⟩ := h
  have h3 := Kd.C_take a3 hm
  have hl : (l.take m).length = m := by rw [List.length_take]; omega
  rw [hl] at h3
  exact ⟨hl, by omega, h3⟩
/-- 'x[:m]'. -/
theorem Rd.to {P : Program} {t e : TypeId} {z : Value} {sz b : Nat} (ht : P.underlying t = some (.slice e)) (hi : (P.info? e).map (fun i => (i.zero, i.size, i.bytes)) = some (some z, sz, b)) (kh : IntKind) (A : Option Addr) (n c m : Nat) (hm : m ≤ n) (hc : n ≤ c) :
    ∀ W : World, (Instr.slice t (.slice A n c) none (some (.int kh (m : Int))) none).run P W = .ok (.slice A m c) W := by
  obtain ⟨i0, hi0, _, _, _⟩ := info_parts hi
  have h := cut_to (P := P) t e kh ht hi0 A n c (m : Int) (by omega) (by omega) hc
  rwa [Int.toNat_natCast] at h
/-- 'x[m:]'. -/
theorem Rd.from {P : Program} {t e : TypeId} {z : Value} {b : Nat} (d : Kd α) (ht : P.underlying t = some (.slice e)) (hi : (P.info? e).map (fun i => (i.zero, i.size, i.bytes)) = some (some z, d.sz, b)) (kl : IntKind) (A : Option Addr) (n c m : Nat) (hm : m ≤ n) (hc : n ≤ c) :
    ∃ A', (∀ W : World, (Instr.slice t (.slice A n c) (some (.int kl (m : Int))) none none).run P W = .ok (.slice A' (n - m) (c - m)) W) ∧ ∀ (w : World) (l : List α), Rd d w A n c l → Rd d w A' (n - m) (c - m) (l.drop m) := by
  obtain ⟨i0, hi0, _, hsz, _⟩ := info_parts hi
  have h := cut_from (P := P) t e kl ht hi0 d.sz hsz A n c (m : Int) (by omega) (by omega)
  rw [Int.toNat_natCast] at h
  refine ⟨_, h, fun w l hr => ?_⟩
  obtain ⟨rfl, a2, a3⟩ := hr
  have h3 := Kd.C_drop a3 hm a2
  rw [List.length_drop] at h3
  exact ⟨List.length_drop, by omega, h3⟩
/-- 'x[lo:hi]'. -/
theorem Rd.mid {P : Program} {t e : TypeId} {z : Value} {b : Nat} (d : Kd α) (ht : P.underlying t = some (.slice e)) (hi : (P.info? e).map (fun i => (i.zero, i.size, i.bytes)) = some (some z, d.sz, b)) (kl kh : IntKind) (A : Option Addr) (n c lo hi' : Nat) (h1 : lo ≤ hi') (h2 : hi' ≤ n) (hc : n ≤ c) :
    ∃ A', (∀ W : World, (Instr.slice t (.slice A n c) (some (.int kl (lo : Int))) (some (.int kh (hi' : Int))) none).run P W = .ok (.slice A' (hi' - lo) (c - lo)) W) ∧ ∀ (w : World) (l : List α), Rd d w A n c l → Rd d w A' (hi' - lo) (c - lo) ((l.take hi').drop lo) := by
  obtain ⟨i0, hi0, _, hsz, _⟩ := info_parts hi
  have h := cut_mid (P := P) t e kl kh ht hi0 d.sz hsz A n c (lo : Int) (hi' : Int) (by omega) (by omega) (by omega) hc
  rw [Int.toNat_natCast, Int.toNat_natCast] at h
  refine ⟨_, h, fun w l hr => ?_⟩
  obtain ⟨rfl, a2, a3⟩ := hr
  have h3 := Kd.C_mid a3 h1 h2 a2
  have hl : ((l.take hi').drop lo).length = hi' - lo := by rw [List.length_drop, List.length_take]; omega
  rw [hl] at h3
  exact ⟨hl, by omega, h3⟩
end
/-- What a call that makes a list answers: the list, told apart; older memory stays. -/
def Made {α : Type} (d : Kd α) (t : Nat) (w : World) (spec : List α) (e : Ending) (w' : World) : Prop := ∃ A n c l, e = .returned (.slice A n c) ∧ l = spec ∧ Rd d w' A n c l ∧ Kd.R d t w' w.heap.size (fun _ => True) (.slice A n c) l ∧ Below w.heap.size w w'
theorem Made.of {α : Type} {d : Kd α} {t : Nat} {w : World} {spec : List α} {e : Ending} {w' : World} (h : ∃ v0_ : Value, e = .returned (v0_) ∧ Kd.R d t w' w.heap.size (fun _ => True) v0_ spec ∧ Below w.heap.size w w') : Made d t w spec e w' := by
  obtain ⟨v, rfl, h1, h2⟩ := h
  obtain ⟨A, n, c, rfl, h3, h4⟩ := Rd.of_R h1
  exact ⟨A, n, c, spec, rfl, rfl, h3, h4, h2⟩
def Says (w : World) (b : Bool) (e : Ending) (w' : World) : Prop := e = .returned (.bool b) ∧ Below w.heap.size w w'
theorem Says.of {w : World} {b : Bool} {e : Ending} {w' : World} (h : e = .returned (.bool b) ∧ Drawn0 w w') : Says w b e w' := ⟨h.1, h.2.below⟩
def Ow {α : Type} (d : Kd α) (t base : Nat) (w : World) (A : Option Addr) (n c : Nat) (l : List α) : Prop := l.length = n ∧ Kd.R d t w base (fun _ => True) (.slice A n c) l
theorem Ow.step {α : Type} {d : Kd α} {t base : Nat} {w w' : World} {A : Option Addr} {n c : Nat} {l : List α} (h : Ow d t base w A n c l) (hb : Below w.heap.size w w') : Ow d t base w' A n c l := ⟨h.1, Kd.R_below h.2 hb⟩
theorem Ow.rd {α : Type} {d : Kd α} {t base : Nat} {w : World} {A : Option Addr} {n c : Nat} {l : List α} (h : Ow d t base w A n c l) : Rd d w A n c l := Rd.of_own h.2
def Tab (w : World) : Prop := GT w
theorem Tab.step {w w' : World} (h : Tab w) (hb : Below w.heap.size w w') : Tab w' := GT.below h hb
/-- Older memory stays, from the law's begin on. -/
def Bel (w W : World) : Prop := Below w.heap.size w W
theorem Bel.step {w W W' : World} (h : Bel w W) (hb : Below W.heap.size W W') : Bel w W' := below_step h hb
/-- What a row that grows leaves of another world's memory: all of it, but its own block. -/
theorem below_grown_none {W W' : World} (h : W.grownBy W' none) : Below W.heap.size W W' := ⟨h.os, h.tape, h.output, h.size, fun k hk => h.block k hk (by simp)⟩
def slen (v : Value) : Nat := match v with | .slice _ n _ => n | _ => 0
theorem slen_slice (A : Option Addr) (n c : Nat) : slen (.slice A n c) = n := rfl
end Go.Proofs.YtnamanalacjhnaaDoor.Wk
-- Printed by a program of this claim's own out of the translation.
namespace Go.Proofs.YtnamanalacjhnaaDoor.QBk
open Go.Proofs.YtnamanalacjhnaaDoor.Own
open Go.RowKit Go.Proofs.YtnamanalacjhnaaDoorW.PrintWords Go.Proofs.YtnamanalacjhnaaDoorW.PrintLast Go.Proofs.YtnamanalacjhnaaDoorW.PrintMore
attribute [local go_sem] max2_int min2_int max_two min_two max_three min_three max_four min_four   -- for this text's walks alone
set_option linter.unusedVariables false
set_option linter.unusedSimpArgs false



def errW : Option Int → Value
  | none => .nilIface
  | some c => .iface 0 (.int .i64 c)
theorem errW_none : errW none = .nilIface := rfl
theorem errW_some (c : Int) : errW (some c) = .iface 0 (.int .i64 c) := rfl

theorem info3 : (Tryd.prog.info? 3).map (fun i => (i.zero, i.size, i.bytes)) = some (some (.int .i64 0), 1, 8) := by kernel_rfl
theorem info5 : (Tryd.prog.info? 5).map (fun i => (i.zero, i.size, i.bytes)) = some (some (.int .u8 0), 1, 1) := by kernel_rfl
-- the values' own types
def rd_L1 (xs : List (List Int)) (i : Int) : (List Int) := xs.getD i.toNat ([] : List Int)
theorem at_L1 {w : World} {A : Option Addr} {n : Nat} {xs : List (List Int)} (h : Kd.C (Kd.slice 5 (Kd.int .u8)) w A n xs) (i : Int) (h0 : 0 ≤ i) (h1 : i < n) : ∃ ad A0 c0, A = some ad ∧ w.cell? (ad.add i.toNat) = some (.slice A0 (rd_L1 xs i).length c0) ∧ (rd_L1 xs i).length ≤ c0 ∧ (Kd.int .u8).C w A0 (rd_L1 xs i).length (rd_L1 xs i) := by
  obtain ⟨ad, c, e, _, hK, hc0⟩ := Kd.C_get h ([] : List Int) i h0 h1
  have hc : ∀ j u, c[j]? = some u → w.cell? (ad.add (i.toNat * 1 + j)) = some u := hc0
  obtain ⟨A0, c0, rfl, l0, g0⟩ := hK
  exact ⟨ad, A0, c0, e, by have hq := hc 0 _ rfl; rwa [Nat.mul_one, Nat.add_zero] at hq, l0, g0⟩

/-! #### struct type 67 -/
structure S67 where
  f0 : ByteArray
  f1 : Bool
  f2 : ByteArray
def z67 : S67 := ⟨(⟨#[]⟩ : ByteArray), false, (⟨#[]⟩ : ByteArray)⟩
def k67 : Kd S67 := Kd.iso (Kd.pair Kd.string (Kd.pair Kd.bool Kd.string)) (fun x : S67 => (x.f0, x.f1, x.f2))
theorem k67_open {w : World} {x : S67} {cs : List Value} (h : k67.K w x cs) : cs = [.string x.f0, .bool x.f1, .string x.f2] := by
  obtain ⟨_, _, rfl, rfl, ⟨_, _, rfl, rfl, rfl⟩⟩ := h
  exact rfl
theorem k67_openM {w : World} {base : Nat} {ok : Nat → Prop} {x : S67} {cs : List Value} (h : k67.M w base ok x cs) : cs = [.string x.f0, .bool x.f1, .string x.f2] := by
  obtain ⟨_, _, rfl, rfl, ⟨_, _, rfl, rfl, rfl⟩⟩ := h
  exact rfl
theorem k67_mk (w : World) (x : S67)  : k67.K w x [.string x.f0, .bool x.f1, .string x.f2] := ⟨[.string x.f0], [.bool x.f1, .string x.f2], rfl, rfl, ⟨[.bool x.f1], [.string x.f2], rfl, rfl, rfl⟩⟩
theorem k67_mkM (w : World) (base : Nat) (ok : Nat → Prop) (x : S67)  : k67.M w base ok x [.string x.f0, .bool x.f1, .string x.f2] := ⟨[.string x.f0], [.bool x.f1, .string x.f2], rfl, rfl, ⟨[.bool x.f1], [.string x.f2], rfl, rfl, rfl⟩⟩
theorem k67_mkF (W : World) (ok : Nat → Prop) (x : S67) : Kd.FK k67 W ok x [.string x.f0, .bool x.f1, .string x.f2] := fun W2 _ => k67_mk W2 x
def rd_T67 (xs : List S67) (i : Int) : S67 := xs.getD i.toNat z67
theorem at_T67 {w : World} {A : Option Addr} {n : Nat} {xs : List S67} (h : Kd.C k67 w A n xs) (i : Int) (h0 : 0 ≤ i) (h1 : i < n) : ∃ ad , A = some ad ∧ w.cell? (ad.add (i.toNat * 3)) = some (.string (rd_T67 xs i).f0) ∧ w.cell? ⟨(ad.add (i.toNat * 3)).block, (ad.add (i.toNat * 3)).off + 1, none⟩ = some (.bool (rd_T67 xs i).f1) ∧ w.cell? ⟨(ad.add (i.toNat * 3)).block, (ad.add (i.toNat * 3)).off + 2, none⟩ = some (.string (rd_T67 xs i).f2) := by
  obtain ⟨ad, c, e, _, hK, hc0⟩ := Kd.C_get h z67 i h0 h1
  have hc : ∀ j u, c[j]? = some u → w.cell? (ad.add (i.toNat * 3 + j)) = some u := hc0
  obtain rfl := k67_open hK
  exact ⟨ad, e, hc 0 _ rfl, by rw [← add_field _ _ 1 (by omega)]; exact hc 1 _ rfl, by rw [← add_field _ _ 2 (by omega)]; exact hc 2 _ rfl⟩

def rd_L5 (xs : List (List S67)) (i : Int) : (List S67) := xs.getD i.toNat ([] : List S67)
theorem at_L5 {w : World} {A : Option Addr} {n : Nat} {xs : List (List S67)} (h : Kd.C (Kd.slice 67 k67) w A n xs) (i : Int) (h0 : 0 ≤ i) (h1 : i < n) : ∃ ad A0 c0, A = some ad ∧ w.cell? (ad.add i.toNat) = some (.slice A0 (rd_L5 xs i).length c0) ∧ (rd_L5 xs i).length ≤ c0 ∧ k67.C w A0 (rd_L5 xs i).length (rd_L5 xs i) := by
  obtain ⟨ad, c, e, _, hK, hc0⟩ := Kd.C_get h ([] : List S67) i h0 h1
  have hc : ∀ j u, c[j]? = some u → w.cell? (ad.add (i.toNat * 1 + j)) = some u := hc0
  obtain ⟨A0, c0, rfl, l0, g0⟩ := hK
  exact ⟨ad, A0, c0, e, by have hq := hc 0 _ rfl; rwa [Nat.mul_one, Nat.add_zero] at hq, l0, g0⟩

end Go.Proofs.YtnamanalacjhnaaDoor.QBk
-- Printed by a program of this claim's own out of the translation.
namespace Go.Proofs.YtnamanalacjhnaaDoor.QBk
open Go.Proofs.YtnamanalacjhnaaDoor.Own
open Go.RowKit Go.Proofs.YtnamanalacjhnaaDoorW.PrintWords Go.Proofs.YtnamanalacjhnaaDoorW.PrintLast Go.Proofs.YtnamanalacjhnaaDoorW.PrintMore
attribute [local go_sem] max2_int min2_int max_two min_two max_three min_three max_four min_four   -- for this text's walks alone
set_option linter.unusedVariables false
set_option linter.unusedSimpArgs false

/-! ### codec_Uint_p: function 69 -/
mutual
def codec_Uint_p.l0 : Nat → Int → List Int → Int → Int → Option (Int × Int × Int)
  | 0, _, _, _, _ => none
  | k + 1, x5, x8, x9, x10 => if x10 < x9 then (if 0 ≤ x10 then (if x10 < (x8.length : Int) then (if (rd x8 x10) = 0 then (if x10 > 0 then (codec_Uint_p.j1 k x5 x10 (rd x8 x10) x8 x9 x10 true) else (if x10 = 9 then (codec_Uint_p.j1 k x5 x10 (rd x8 x10) x8 x9 x10 ((rd x8 x10) != 1)) else (codec_Uint_p.j1 k x5 x10 (rd x8 x10) x8 x9 x10 false))) else (if x10 = 9 then (codec_Uint_p.j1 k x5 x10 (rd x8 x10) x8 x9 x10 ((rd x8 x10) != 1)) else (codec_Uint_p.j1 k x5 x10 (rd x8 x10) x8 x9 x10 false))) else (none)) else (none)) else (some (0, 0, 20))
def codec_Uint_p.j1 : Nat → Int → Int → Int → List Int → Int → Int → Bool → Option (Int × Int × Int)
  | 0, _, _, _, _, _, _, _ => none
  | k + 1, x5, x6, x7, x8, x9, x10, x28 => if x28 = true then (some (0, 0, 21)) else (if 0 ≤ (wrap64 (7 * x6)) then (if x7 < 128 then (some (Go.bits .or .u64 x5 (shl .u64 (IntKind.u64.wrap (Go.bits .and .u8 x7 127)) (wrap64 (7 * x6))), wrap64 (x6 + 1), 0)) else (codec_Uint_p.l0 k (Go.bits .or .u64 x5 (shl .u64 (IntKind.u64.wrap (Go.bits .and .u8 x7 127)) (wrap64 (7 * x6)))) x8 x9 (wrap64 (x10 + 1)))) else (none))
end
def codec_Uint_p.f (k : Nat) (l0 : List Int) : Option (Int × Int × Int) := codec_Uint_p.l0 k 0 l0 (l0.length : Int) 0
theorem codec_Uint_p.mono_l : ∀ k, (∀ y0 y1 y2 y3, LeO (codec_Uint_p.l0 k y0 y1 y2 y3) (codec_Uint_p.l0 (k + 1) y0 y1 y2 y3)) ∧ (∀ y0 y1 y2 y3 y4 y5 y6, LeO (codec_Uint_p.j1 k y0 y1 y2 y3 y4 y5 y6) (codec_Uint_p.j1 (k + 1) y0 y1 y2 y3 y4 y5 y6))
  | 0 => ⟨fun _ _ _ _ r h => by simp [codec_Uint_p.l0] at h, fun _ _ _ _ _ _ _ r h => by simp [codec_Uint_p.j1] at h⟩
  | k + 1 => by
    obtain ⟨ih0, ih1⟩ := codec_Uint_p.mono_l k
    refine ⟨?_, ?_⟩
    · intro y0 y1 y2 y3
      unfold codec_Uint_p.l0
      repeat' first
      | (with_reducible exact ih0 _ _ _ _)
      | (with_reducible exact ih1 _ _ _ _ _ _ _)
      | (with_reducible exact LeO.refl _)
      | (with_reducible exact LeO.none _)
      | (with_reducible refine LeO.ite ?_ ?_)
      | (with_reducible refine LeO.bind ?_ (fun _ => ?_))
      | exact ih0 _ _ _ _
      | exact ih1 _ _ _ _ _ _ _
      | exact LeO.none _
      | refine LeO.ite ?_ ?_
      | refine LeO.bind ?_ (fun _ => ?_)
    · intro y0 y1 y2 y3 y4 y5 y6
      unfold codec_Uint_p.j1
      repeat' first
      | (with_reducible exact ih0 _ _ _ _)
      | (with_reducible exact ih1 _ _ _ _ _ _ _)
      | (with_reducible exact LeO.refl _)
      | (with_reducible exact LeO.none _)
      | (with_reducible refine LeO.ite ?_ ?_)
      | (with_reducible refine LeO.bind ?_ (fun _ => ?_))
      | exact ih0 _ _ _ _
      | exact ih1 _ _ _ _ _ _ _
      | exact LeO.none _
      | refine LeO.ite ?_ ?_
      | refine LeO.bind ?_ (fun _ => ?_)
theorem codec_Uint_p.mono : ∀ a0 k, LeO (codec_Uint_p.f k a0) (codec_Uint_p.f (k + 1) a0) := by
  intro a0 k
  obtain ⟨ih0, ih1⟩ := codec_Uint_p.mono_l k
  unfold codec_Uint_p.f
  repeat' first
      | (with_reducible exact ih0 _ _ _ _)
      | (with_reducible exact ih1 _ _ _ _ _ _ _)
      | (with_reducible exact LeO.refl _)
      | (with_reducible exact LeO.none _)
      | (with_reducible refine LeO.ite ?_ ?_)
      | (with_reducible refine LeO.bind ?_ (fun _ => ?_))
      | exact ih0 _ _ _ _
      | exact ih1 _ _ _ _ _ _ _
      | exact LeO.none _
      | refine LeO.ite ?_ ?_
      | refine LeO.bind ?_ (fun _ => ?_)
set_option maxHeartbeats 8000000 in
set_option maxRecDepth 100000 in
theorem codec_Uint_p.calls (k : Nat) (A0 : Option Addr) (c0 : Nat) (l0 : List Int) (r1 : Int) (r2 : Int) (r3 : Int) (w : World) (hr0 : Kd.C (Kd.int .u8) w A0 l0.length l0) (hc0 : l0.length ≤ c0) (h : codec_Uint_p.f k l0 = some (r1, r2, r3)) :
    Calls Tryd.prog 69 #[.slice A0 l0.length c0] w fun e w' => e = .returned (.tuple #[.int .u64 r1, .int .i64 r2, .int .i64 r3]) ∧ Drawn0 w w' := by
  have HR0 := Aside0.mk hr0
  have HC0 := Aside0.mk hc0
  clear hr0 hc0
  have H : (codec_Uint_p.l0 k 0 l0 (l0.length : Int) 0) = some (r1, r2, r3) := h
  clear h
  have H' := Aside0.mk H
  clear H
  go_enter Tryd.func69, Tryd.ntmps69
  go_wp2
  go_loopg [5, 10] k (fun kq v5 v10 w' => ∃ (x5_1 : Int) (x10_1 : Int), v5 = .int .u64 x5_1 ∧ v10 = .int .i64 x10_1 ∧ Aside0 (codec_Uint_p.l0 kq x5_1 l0 (l0.length : Int) x10_1 = some (r1, r2, r3)) ∧ Aside0 (kq ≤ k) ∧ Drawn0 w w')
  case atStart => exact ⟨(0), (0), (by first | rfl | (simp; done) | (simp [*]; done)), (by first | rfl | (simp; done) | (simp [*]; done)), H', ⟨Nat.le_refl _⟩, by repeat (first | exact Drawn0.refl _ | apply Drawn0.step)⟩
  case round =>
    clear H'
    obtain ⟨x5_1, x10_1, rfl, rfl, HA, HK1, ⟨m1, rfl⟩⟩ := hrel
    cases gk with
    | zero => exact absurd HA.out (by simp [codec_Uint_p.l0])
    | succ k1 =>
      have H := HA.out
      clear HA
      simp only [codec_Uint_p.l0] at H
      by_cases c2 : x10_1 < (l0.length : Int)
      · rw [if_pos c2] at H
        have c2b0 : decide (x10_1 < (l0.length : Int)) = true := decide_eq_true c2
        clear c2
        by_cases c3 : 0 ≤ x10_1
        · rw [if_pos c3] at H
          have c3b0 : decide (0 ≤ x10_1) = true := decide_eq_true c3
          clear c3
          by_cases c4 : x10_1 < (l0.length : Int)
          · rw [if_pos c4] at H
            have c4b0 : decide (x10_1 < (l0.length : Int)) = true := decide_eq_true c4
            clear c4
            have HC5 := Aside0.mk H
            clear H
            have p149 : 0 ≤ (x10_1 : Int) := of_decide_eq_true (by first | (with_reducible assumption) | assumption)
            have q149 : x10_1 < (l0.length : Int) := of_decide_eq_true (by first | (with_reducible assumption) | assumption)
            obtain ⟨ad149, e149, hx149_0⟩ := Kd.at_int HR0.out x10_1 p149 q149
            cases e149
            replace p149 := eq_true p149
            replace q149 := eq_true q149
            go_upto_region 5 with (fail)
            (try (obtain ⟨tb1_, hTB1_⟩ : ∃ tb_ : Bool, (((rd l0 x10_1) == 0)) = tb_ := ⟨_, rfl⟩; simp only [hTB1_]; have TB1_ := Aside0.mk hTB1_; clear hTB1_))
            go_cut [28] (fun v28 wc => ∃ (kq : Nat) (x28_4 : Bool), v28 = .bool x28_4 ∧ Aside0 (codec_Uint_p.j1 kq x5_1 x10_1 (rd l0 x10_1) l0 (l0.length : Int) x10_1 x28_4 = some (r1, r2, r3)) ∧ Aside0 (kq ≤ k1) ∧ Drawn0 w wc)
            case first =>
              have H := HC5.out
              clear HC5
              by_cases c6 : (rd l0 x10_1) = 0
              · rw [if_pos c6] at H
                have c6b0 : ((rd l0 x10_1) == 0) = true := beq_iff_eq.mpr c6
                (try (obtain rfl := TB1_.out.symm.trans c6b0))
                have c6b1 : ((rd l0 x10_1) != 0) = false := bne_eq_false_iff_eq.mpr c6
                clear c6
                (first | rw [c6b0] | (simp only [i64_w, i32_w]; rw [c6b0]) | skip)
                by_cases c7 : x10_1 > 0
                · rw [if_pos c7] at H
                  have c7b0 : decide (0 < x10_1) = true := decide_eq_true c7
                  clear c7
                  have H' := Aside0.mk H
                  clear H
                  go_wp2
                  go_meet
                  case rel => exact ⟨_, (true), (by first | rfl | (simp; done) | (simp [*]; done)), H', ⟨by have := HK1.out; first | omega | exact Nat.le_refl _⟩, by repeat (first | exact Drawn0.refl _ | apply Drawn0.step)⟩
                · rw [if_neg c7] at H
                  have c7b0 : decide (0 < x10_1) = false := decide_eq_false c7
                  clear c7
                  by_cases c8 : x10_1 = 9
                  · rw [if_pos c8] at H
                    have c8b0 : (x10_1 == 9) = true := beq_iff_eq.mpr c8
                    have c8b1 : (x10_1 != 9) = false := bne_eq_false_iff_eq.mpr c8
                    clear c8
                    have H' := Aside0.mk H
                    clear H
                    go_wp2
                    go_meet
                    case rel => exact ⟨_, (((rd l0 x10_1) != 1)), (by first | rfl | (simp; done) | (simp [*]; done)), H', ⟨by have := HK1.out; first | omega | exact Nat.le_refl _⟩, by repeat (first | exact Drawn0.refl _ | apply Drawn0.step)⟩
                  · rw [if_neg c8] at H
                    have c8b0 : (x10_1 == 9) = false := beq_eq_false_iff_ne.mpr c8
                    have c8b1 : (x10_1 != 9) = true := bne_iff_ne.mpr c8
                    have H' := Aside0.mk H
                    clear H
                    go_wp2
                    go_meet
                    case rel => exact ⟨_, (false), (by first | rfl | (simp; done) | (simp [*]; done)), H', ⟨by have := HK1.out; first | omega | exact Nat.le_refl _⟩, by repeat (first | exact Drawn0.refl _ | apply Drawn0.step)⟩
              · rw [if_neg c6] at H
                have c6b0 : ((rd l0 x10_1) == 0) = false := beq_eq_false_iff_ne.mpr c6
                (try (obtain rfl := TB1_.out.symm.trans c6b0))
                have c6b1 : ((rd l0 x10_1) != 0) = true := bne_iff_ne.mpr c6
                (first | rw [c6b0] | (simp only [i64_w, i32_w]; rw [c6b0]) | skip)
                by_cases c9 : x10_1 = 9
                · rw [if_pos c9] at H
                  have c9b0 : (x10_1 == 9) = true := beq_iff_eq.mpr c9
                  have c9b1 : (x10_1 != 9) = false := bne_eq_false_iff_eq.mpr c9
                  clear c9
                  have H' := Aside0.mk H
                  clear H
                  go_wp2
                  go_meet
                  case rel => exact ⟨_, (((rd l0 x10_1) != 1)), (by first | rfl | (simp; done) | (simp [*]; done)), H', ⟨by have := HK1.out; first | omega | exact Nat.le_refl _⟩, by repeat (first | exact Drawn0.refl _ | apply Drawn0.step)⟩
                · rw [if_neg c9] at H
                  have c9b0 : (x10_1 == 9) = false := beq_eq_false_iff_ne.mpr c9
                  have c9b1 : (x10_1 != 9) = true := bne_iff_ne.mpr c9
                  have H' := Aside0.mk H
                  clear H
                  go_wp2
                  go_meet
                  case rel => exact ⟨_, (false), (by first | rfl | (simp; done) | (simp [*]; done)), H', ⟨by have := HK1.out; first | omega | exact Nat.le_refl _⟩, by repeat (first | exact Drawn0.refl _ | apply Drawn0.step)⟩
            case rest =>
              clear HC5
              try clear p1
              try clear q1
              try clear hx1
              try clear c2
              try clear c2b0
              try clear p2
              try clear c3
              try clear c3b0
              try clear c4
              try clear c4b0
              try clear c6
              try clear c6b0
              try clear c6b1
              try clear c7
              try clear c7b0
              try clear c8
              try clear c8b0
              try clear c8b1
              try clear c9
              try clear c9b0
              try clear c9b1
              try clear hx149_0
              try clear p149
              try clear q149
              obtain ⟨kq, x28_4, rfl, HA, HJ4, ⟨mc4, rfl⟩⟩ := hcut
              cases kq with
              | zero => exact absurd HA.out (by simp [codec_Uint_p.j1])
              | succ kj4 =>
                have H := HA.out
                clear HA
                simp only [codec_Uint_p.j1] at H
                by_cases c10 : x28_4 = true
                · subst c10
                  have H1 : (some (0, 0, 21)) = some (r1, r2, r3) := by rw [if_pos rfl] at H; exact H
                  clear H
                  have H := H1
                  clear H1
                  simp only [Option.some.injEq, Prod.mk.injEq] at H
                  obtain ⟨rfl, rfl, rfl⟩ := H
                  go_wp2
                  go_ret3
                  exact ⟨by first | rfl | (simp; done) | (simp [*]; done), by repeat (first | exact Drawn0.refl _ | apply Drawn0.step)⟩
                · replace c10 := Bool.eq_false_iff.mpr c10
                  subst c10
                  have H1 : (if 0 ≤ (wrap64 (7 * x10_1)) then (if (rd l0 x10_1) < 128 then (some (Go.bits .or .u64 x5_1 (shl .u64 (IntKind.u64.wrap (Go.bits .and .u8 (rd l0 x10_1) 127)) (wrap64 (7 * x10_1))), wrap64 (x10_1 + 1), 0)) else (codec_Uint_p.l0 kj4 (Go.bits .or .u64 x5_1 (shl .u64 (IntKind.u64.wrap (Go.bits .and .u8 (rd l0 x10_1) 127)) (wrap64 (7 * x10_1)))) l0 (l0.length : Int) (wrap64 (x10_1 + 1)))) else (none)) = some (r1, r2, r3) := by rw [if_neg (show ¬ (false = true) by decide)] at H; exact H
                  clear H
                  have H := H1
                  clear H1
                  obtain ⟨ji11, hji11⟩ : ∃ j_ : Int, (wrap64 (7 * x10_1)) = j_ := ⟨_, rfl⟩
                  replace H : (if 0 ≤ (ji11) then (if (rd l0 x10_1) < 128 then (some (Go.bits .or .u64 x5_1 (shl .u64 (IntKind.u64.wrap (Go.bits .and .u8 (rd l0 x10_1) 127)) (ji11)), wrap64 (x10_1 + 1), 0)) else (codec_Uint_p.l0 kj4 (Go.bits .or .u64 x5_1 (shl .u64 (IntKind.u64.wrap (Go.bits .and .u8 (rd l0 x10_1) 127)) (ji11))) l0 (l0.length : Int) (wrap64 (x10_1 + 1)))) else (none)) = some (r1, r2, r3) := by first | (rw [hji11] at H; exact H) | (simp only [hji11] at H ⊢; exact H)
                  have hji11w : (IntKind.i64.wrap (7 * x10_1)) = ji11 := (i64_w _).trans hji11
                  by_cases c12 : 0 ≤ (ji11)
                  · rw [if_pos c12] at H
                    have c12b0 := eq_true c12
                    have c12b1 : decide (0 ≤ (ji11)) = true := decide_eq_true c12
                    clear c12
                    obtain ⟨ji13, hji13⟩ : ∃ j_ : Int, (shl .u64 (IntKind.u64.wrap (Go.bits .and .u8 (rd l0 x10_1) 127)) (ji11)) = j_ := ⟨_, rfl⟩
                    replace H : (if (rd l0 x10_1) < 128 then (some (Go.bits .or .u64 x5_1 (ji13), wrap64 (x10_1 + 1), 0)) else (codec_Uint_p.l0 kj4 (Go.bits .or .u64 x5_1 (ji13)) l0 (l0.length : Int) (wrap64 (x10_1 + 1)))) = some (r1, r2, r3) := by first | (rw [hji13] at H; exact H) | (simp only [hji13] at H ⊢; exact H)
                    have hji13_ : (IntKind.u64.wrap ((IntKind.u64.wrap (Go.bits .and .u8 (rd l0 x10_1) 127)) * 2 ^ min (ji11).toNat 64)) = ji13 := hji13
                    have hji13z : (ji11) ≤ 64 → (IntKind.u64.wrap ((IntKind.u64.wrap (Go.bits .and .u8 (rd l0 x10_1) 127)) * 2 ^ (ji11).toNat)) = ji13 := shl_small hji13
                    by_cases c14 : (rd l0 x10_1) < 128
                    · rw [if_pos c14] at H
                      have c14b0 : decide ((rd l0 x10_1) < 128) = true := decide_eq_true c14
                      clear c14
                      simp only [Option.some.injEq, Prod.mk.injEq] at H
                      obtain ⟨rfl, rfl, rfl⟩ := H
                      go_wp2
                      go_ret3
                      exact ⟨by first | rfl | (simp; done) | (simp only [← hji11, ← hji13] <;> (first | rfl | simp)) | (simp [*]; done), by repeat (first | exact Drawn0.refl _ | apply Drawn0.step)⟩
                    · rw [if_neg c14] at H
                      have c14b0 : decide ((rd l0 x10_1) < 128) = false := decide_eq_false c14
                      clear c14
                      have H' := Aside0.mk H
                      clear H
                      go_wp2
                      go_roundg kj4
                      case measure => have := HK1.out; have := HJ4.out; omega
                      case rel => exact ⟨(Go.bits .or .u64 x5_1 (ji13)), (wrap64 (x10_1 + 1)), (by first | rfl | (simp; done) | (simp only [← hji13] <;> (first | rfl | simp)) | (simp [*]; done)), (by first | rfl | (simp; done) | (simp [*]; done)), H', ⟨by have := HK1.out; have := HJ4.out; omega⟩, by repeat (first | exact Drawn0.refl _ | apply Drawn0.step)⟩
                  · rw [if_neg c12] at H
                    exact absurd H (by simp)
          · rw [if_neg c4] at H
            exact absurd H (by simp)
        · rw [if_neg c3] at H
          exact absurd H (by simp)
      · rw [if_neg c2] at H
        have c2b0 : decide (x10_1 < (l0.length : Int)) = false := decide_eq_false c2
        clear c2
        simp only [Option.some.injEq, Prod.mk.injEq] at H
        obtain ⟨rfl, rfl, rfl⟩ := H
        go_wp2
        go_ret3
        exact ⟨by first | rfl | (simp; done) | (simp [*]; done), by repeat (first | exact Drawn0.refl _ | apply Drawn0.step)⟩

/-! ### codec_Uint: function 69 -/
theorem codec_Uint_ev (l : List Int) (hl : Bytes l) (hm : l.length ≤ 140737488355328) (d : Nat) : ∀ (i a : Nat), i + d = l.length → i ≤ 9 → a < 128 ^ i → Ev (fun k => codec_Uint_p.l0 k (a : Int) l (l.length : Int) (i : Int)) (i3 (uintR (l.drop i) i a)) := by
  induction d with
  | zero =>
    intro i a hi h9 ha
    refine Ev.step (f := fun _ => some (0, 0, 20)) (fun k => ?_) (by rw [List.drop_of_length_le (by omega)]; exact Ev.now _)
    simp only [codec_Uint_p.l0]
    rw [if_neg (by omega)]
  | succ d ih =>
    intro i a hi h9 ha
    have hlt : i < l.length := by omega
    have hb := hl _ (List.getElem_mem hlt)
    have hrd : rd l (i : Int) = l[i] := by simp [rd, List.getD_eq_getElem?_getD, hlt]
    rw [List.drop_eq_getElem_cons hlt]
    obtain ⟨c, hc⟩ := Int.eq_ofNat_of_zero_le hb.1
    have hw : wrap64 (7 * (i : Int)) = 7 * (i : Int) := by unfold wrap64; omega
    have hw1 : wrap64 ((i : Int) + 1) = ((i + 1 : Nat) : Int) := by unfold wrap64; omega
    have hand : IntKind.u64.wrap (Go.bits .and .u8 (c : Int) 127) = ((c % 128 : Nat) : Int) := by
      rw [own_and127 _ ⟨by omega, by omega⟩]
      simp [IntKind.wrap, IntKind.bits, IntKind.signed]
      omega
    have bad : Ev (fun k => codec_Uint_p.j1 k (a : Int) (i : Int) (rd l (i : Int)) l (l.length : Int) (i : Int) true) (i3 (0, 0, 21)) := Ev.step (f := fun _ => some (0, 0, 21)) (fun k => by simp [codec_Uint_p.j1]) (Ev.now _)
    have good : (i ≤ 8 ∨ i = 9 ∧ c = 1) → Ev (fun k => codec_Uint_p.j1 k (a : Int) (i : Int) (rd l (i : Int)) l (l.length : Int) (i : Int) false) (i3 (if (l[i] : Int) < 128 then (a + (l[i] : Int).toNat % 128 * 128 ^ i, i + 1, 0) else uintR (l.drop (i + 1)) (i + 1) (a + (l[i] : Int).toNat % 128 * 128 ^ i))) := by
      intro h8
      rw [hrd, hc, Int.toNat_natCast]
      have hacc := acc_step a (c % 128) i ha (by omega) (by omega)
      by_cases h1 : (c : Int) < 128
      · rw [if_pos h1]
        refine Ev.step (f := fun _ => some (i3 (a + c % 128 * 128 ^ i, i + 1, 0))) (fun k => ?_) (Ev.now _)
        simp only [codec_Uint_p.j1]
        rw [if_neg (by decide), if_pos (by omega), if_pos h1, hand, hw, hacc.1, hw1]
        rfl
      · rw [if_neg h1]
        refine Ev.step (f := fun k => codec_Uint_p.l0 k ((a + c % 128 * 128 ^ i : Nat) : Int) l (l.length : Int) ((i + 1 : Nat) : Int)) (fun k => ?_) (ih (i + 1) _ (by omega) (by omega) (acc_lt a (c % 128) i ha (by omega)))
        simp only [codec_Uint_p.j1]
        rw [if_neg (by decide), if_pos (by omega), if_neg h1, hand, hw, hacc.1, hw1]
    simp only [uintR]
    by_cases hz : l[i] = 0 ∧ 0 < i ∨ i = 9 ∧ l[i] ≠ 1
    · rw [if_pos hz]
      refine Ev.step (fun k => ?_) bad
      simp only [codec_Uint_p.l0]
      rw [if_pos (by omega), if_pos (by omega), if_pos (by omega)]
      by_cases h0 : l[i] = 0
      · rw [hrd, if_pos h0]
        by_cases hi0 : (i : Int) > 0
        · rw [if_pos hi0]
        · exact absurd hz (by omega)
      · rw [hrd, if_neg h0]
        have h9' : i = 9 ∧ l[i] ≠ 1 := by omega
        rw [if_pos (by omega), bne_iff_ne.mpr h9'.2]
    · rw [if_neg hz]
      refine Ev.step (fun k => ?_) (good (by omega))
      simp only [codec_Uint_p.l0]
      rw [if_pos (by omega), if_pos (by omega), if_pos (by omega)]
      by_cases h0 : l[i] = 0
      · rw [hrd, if_pos h0, if_neg (by omega), if_neg (by omega)]
      · rw [hrd, if_neg h0]
        by_cases h9' : i = 9
        · rw [if_pos (by omega)]
          have h1 : l[i] = 1 := by omega
          rw [h1]
          rfl
        · rw [if_neg (by omega)]
def codec_Uint.f (l0 : List Int) : Option (Int × Int × Int) := if okB l0 = true ∧ l0.length ≤ 140737488355328 then some (uintL l0) else none
theorem codec_Uint.calls (A0 : Option Addr) (c0 : Nat) (l0 : List Int) (r1 : Int) (r2 : Int) (r3 : Int) (w : World) (hr0 : Kd.C (Kd.int .u8) w A0 l0.length l0) (hc0 : l0.length ≤ c0) (h : codec_Uint.f l0 = some (r1, r2, r3)) :
    Calls Tryd.prog 69 #[.slice A0 l0.length c0] w fun e w' => e = .returned (.tuple #[.int .u64 r1, .int .i64 r2, .int .i64 r3]) ∧ Drawn0 w w' := by
  unfold codec_Uint.f at h
  split at h
  · rename_i hh
    obtain ⟨k, hk⟩ := (codec_Uint_ev l0 (okB_iff.1 hh.1) hh.2 l0.length 0 0 (by omega) (by omega) (by decide)).rounds
    exact codec_Uint_p.calls k A0 c0 l0 r1 r2 r3 w hr0 hc0 (by rw [← h]; exact hk)
  · cases h

-- NOT PRINTED: function 55 (log_reader_number)

-- NOT PRINTED: function 74 (log_reader_del)

/-! ### codec_Text: function 76 -/
def codec_Text.f (l0 : List Int) (a1 : Int) : Option (ByteArray × Int × Int) := if okB l0 = true ∧ l0.length ≤ 140737488351232 ∧ -9223372036854775808 ≤ a1 ∧ a1 ≤ 9223372036854775807 then some (textL l0 a1) else none
set_option maxHeartbeats 1000000 in
set_option maxRecDepth 100000 in
theorem codec_Text.calls (A0 : Option Addr) (c0 : Nat) (l0 : List Int) (a1 : Int) (r1 : ByteArray) (r2 : Int) (r3 : Int) (w : World) (hr0 : Kd.C (Kd.int .u8) w A0 l0.length l0) (hc0 : l0.length ≤ c0) (h : codec_Text.f l0 a1 = some (r1, r2, r3)) :
    Calls Tryd.prog 76 #[.slice A0 l0.length c0, .int .i64 a1] w fun e w' => e = .returned (.tuple #[.string r1, .int .i64 r2, .int .i64 r3]) ∧ Drawn0 w w' := by
  unfold codec_Text.f at h
  split at h
  · rename_i hh
    obtain ⟨hb, hl, hm1, hm2⟩ := hh
    have h := Option.some.inj h
    have HR0 := Aside0.mk hr0
    have hs := uintN_spec l0 (okB_iff.1 hb)
    have hU : codec_Uint.f l0 = some (uintL l0) := by unfold codec_Uint.f; rw [if_pos ⟨hb, by omega⟩]
    obtain ⟨n, k, e, hN, s1, s2, s3⟩ : ∃ n k e, uintN l0 = (n, k, e) ∧ n < 18446744073709551616 ∧ k ≤ l0.length ∧ k ≤ 10 := ⟨_, _, _, rfl, hs⟩
    have hL : uintL l0 = ((n : Int), (k : Int), (e : Int)) := by unfold uintL i3; rw [hN]
    rw [hL] at hU
    have HU := Aside0.mk hU
    unfold textL at h
    rw [hN] at h
    simp only at h
    have hk : IntKind.u64.wrap (wrap64 ((l0.length : Int) - (k : Int))) = (l0.length : Int) - (k : Int) := by
      rw [show wrap64 ((l0.length : Int) - (k : Int)) = (l0.length : Int) - (k : Int) by unfold wrap64; omega]
      simp [IntKind.wrap, IntKind.bits, IntKind.signed]
      omega
    have HK := Aside0.mk hk
    clear hU hr0 hs hN hL hk
    by_cases he : e = 0
    · rw [if_neg (by simpa using he)] at h
      subst he
      by_cases hmost : a1 < 0
      · rw [if_pos (.inl hmost)] at h
        simp only [Prod.mk.injEq] at h
        obtain ⟨rfl, rfl, rfl⟩ := h
        have hd : decide (a1 < 0) = true := decide_eq_true hmost
        go_enter Tryd.func76, Tryd.ntmps76
        go_wp2_with fail
        refine (codec_Uint.calls A0 c0 l0 (n : Int) (k : Int) ((0 : Nat) : Int) w HR0.out hc0 HU.out).mono ?_
        rintro e w1 ⟨rfl, ⟨m1, rfl⟩⟩
        go_wp2
        go_ret3
        exact ⟨rfl, ⟨m1, rfl⟩⟩
      · have hge : 0 ≤ a1 := by omega
        have hd : decide (a1 < 0) = false := decide_eq_false hmost
        have hwa : IntKind.u64.wrap a1 = a1 := by simp [IntKind.wrap, IntKind.bits, IntKind.signed]; omega
        by_cases hbig : (n : Int) > a1
        · rw [if_pos (.inr hbig)] at h
          simp only [Prod.mk.injEq] at h
          obtain ⟨rfl, rfl, rfl⟩ := h
          have hd2 : decide (a1 < (n : Int)) = true := decide_eq_true hbig
          have hd3 : decide (IntKind.u64.wrap a1 < (n : Int)) = true := by rw [hwa]; exact hd2
          clear hwa
          go_enter Tryd.func76, Tryd.ntmps76
          go_wp2_with fail
          refine (codec_Uint.calls A0 c0 l0 (n : Int) (k : Int) ((0 : Nat) : Int) w HR0.out hc0 HU.out).mono ?_
          rintro e w1 ⟨rfl, ⟨m1, rfl⟩⟩
          go_wp2
          go_ret3
          exact ⟨rfl, ⟨m1, rfl⟩⟩
        · rw [if_neg (by omega)] at h
          have hd2 : decide (a1 < (n : Int)) = false := decide_eq_false (by omega)
          have hd3 : decide (IntKind.u64.wrap a1 < (n : Int)) = false := by rw [hwa]; exact hd2
          clear hwa
          by_cases hs : n > l0.length - k
          · rw [if_pos hs] at h
            simp only [Prod.mk.injEq] at h
            obtain ⟨rfl, rfl, rfl⟩ := h
            have hd4 : decide ((l0.length : Int) - (k : Int) < (n : Int)) = true := decide_eq_true (by omega)
            have hd5 : decide (IntKind.u64.wrap (wrap64 ((l0.length : Int) - (k : Int))) < (n : Int)) = true := by rw [HK.out]; exact hd4
            have hd6 : decide (IntKind.u64.wrap ((l0.length : Int) - (k : Int)) < (n : Int)) = true := by have := HK.out; rw [show wrap64 ((l0.length : Int) - (k : Int)) = (l0.length : Int) - (k : Int) by unfold wrap64; omega] at this; rw [this]; exact hd4
            go_enter Tryd.func76, Tryd.ntmps76
            go_wp2_with fail
            refine (codec_Uint.calls A0 c0 l0 (n : Int) (k : Int) ((0 : Nat) : Int) w HR0.out hc0 HU.out).mono ?_
            rintro e w1 ⟨rfl, ⟨m1, rfl⟩⟩
            go_wp2
            go_ret3
            exact ⟨rfl, ⟨m1, rfl⟩⟩
          · rw [if_neg hs] at h
            simp only [Prod.mk.injEq] at h
            obtain ⟨e1, e2, rfl⟩ := h
            have E1 := Aside0.mk e1
            have E2 := Aside0.mk e2
            clear e1 e2
            have hd4 : decide ((l0.length : Int) - (k : Int) < (n : Int)) = false := decide_eq_false (by omega)
            have hd5 : decide (IntKind.u64.wrap (wrap64 ((l0.length : Int) - (k : Int))) < (n : Int)) = false := by rw [HK.out]; exact hd4
            have hd6 : decide (IntKind.u64.wrap ((l0.length : Int) - (k : Int)) < (n : Int)) = false := by have := HK.out; rw [show wrap64 ((l0.length : Int) - (k : Int)) = (l0.length : Int) - (k : Int) by unfold wrap64; omega] at this; rw [this]; exact hd4
            obtain ⟨i012, hi012, _, hsz12, _⟩ := info_parts info5
            obtain ⟨A12, hcut12, hA12, hC12⟩ := print_mid_of (P := Tryd.prog) (Value.int .u8) (0 : Int) 22 5 .i64 .i64 Tryd.underlying22 hi012 hsz12 A0 c0 l0 (k : Int) ((k : Int) + (n : Int)) (by omega) (by omega) (by omega) hc0
            have HE : Aside0 (strOfNums ((l0.take ((k : Int) + (n : Int)).toNat).drop (k : Int).toNat) = r1) := ⟨by rw [show ((k : Int) + (n : Int)).toNat = k + n by omega, Int.toNat_natCast]; exact E1.out⟩
            generalize (l0.take ((k : Int) + (n : Int)).toNat).drop (k : Int).toNat = ys at hcut12 hA12 hC12 HE
            have hR12 := Kd.C_of_reads (h1 := fun _ => rfl) (hA12 _ (Kd.reads_of_C HR0.out))
            have HR12 := Aside0.mk hR12
            clear hA12 hC12 hi012 hsz12 hR12
            go_enter Tryd.func76, Tryd.ntmps76
            go_wp2_with fail
            refine (codec_Uint.calls A0 c0 l0 (n : Int) (k : Int) ((0 : Nat) : Int) w HR0.out hc0 HU.out).mono ?_
            rintro e w1 ⟨rfl, ⟨m1, rfl⟩⟩
            have hcv13 := Kd.C_string (P := Tryd.prog) (w := w.drewN m1) (A := A12) (c := (c0 - k)) Tryd.underlying22 Tryd.underlying5 Tryd.underlying9 HR12.out
            rw [HE.out] at hcv13
            go_wp2
            repeat (go_quiet (fail); try go_wp2)
            go_ret3
            exact ⟨by rw [← E2.out]; rfl, by repeat (first | exact Drawn0.refl _ | apply Drawn0.step)⟩
    · rw [if_pos (by simpa using he)] at h
      simp only [Prod.mk.injEq] at h
      obtain ⟨rfl, rfl, rfl⟩ := h
      have hd : ((e : Int) != 0) = true := by rw [bne_iff_ne]; omega
      go_enter Tryd.func76, Tryd.ntmps76
      go_wp2_with fail
      refine (codec_Uint.calls A0 c0 l0 (n : Int) (k : Int) (e : Int) w HR0.out hc0 HU.out).mono ?_
      rintro e' w1 ⟨rfl, ⟨m1, rfl⟩⟩
      go_wp2
      go_ret3
      exact ⟨rfl, ⟨m1, rfl⟩⟩
  · cases h

-- NOT PRINTED: function 75 (log_reader_text)

-- NOT PRINTED: function 70 (log_reader_write)

-- NOT PRINTED: function 56 (log_reader_batch)

-- NOT PRINTED: function 24 (log_Get)

/-! ### codec_number: function 71 -/
def codec_number.l0 : Nat → List Int → Int → Option (List Int)
  | 0, _, _ => none
  | k + 1, x0, x1 => if x1 ≥ 128 then (if x0.length < 140737488355328 then (codec_number.l0 k (x0 ++ [Go.bits .or .u8 ((x1) % 256) 128]) (x1 / 128)) else (none)) else (if x0.length < 140737488355328 then (some (x0 ++ [(x1) % 256])) else (none))
def codec_number.f (k : Nat) (l0 : List Int) (a1 : Int) : Option (List Int) := codec_number.l0 k l0 a1
theorem codec_number.mono_l : ∀ k, (∀ y0 y1, LeO (codec_number.l0 k y0 y1) (codec_number.l0 (k + 1) y0 y1))
  | 0 => fun _ _ r h => by simp [codec_number.l0] at h
  | k + 1 => by
    have ih0 := codec_number.mono_l k
    · intro y0 y1
      unfold codec_number.l0
      repeat' first
      | (with_reducible exact ih0 _ _)
      | (with_reducible exact LeO.refl _)
      | (with_reducible exact LeO.none _)
      | (with_reducible refine LeO.ite ?_ ?_)
      | (with_reducible refine LeO.bind ?_ (fun _ => ?_))
      | exact ih0 _ _
      | exact LeO.none _
      | refine LeO.ite ?_ ?_
      | refine LeO.bind ?_ (fun _ => ?_)
theorem codec_number.mono : ∀ a0 a1 k, LeO (codec_number.f k a0 a1) (codec_number.f (k + 1) a0 a1) := by
  intro a0 a1 k
  have ih0 := codec_number.mono_l k
  unfold codec_number.f
  repeat' first
      | (with_reducible exact ih0 _ _)
      | (with_reducible exact LeO.refl _)
      | (with_reducible exact LeO.none _)
      | (with_reducible refine LeO.ite ?_ ?_)
      | (with_reducible refine LeO.bind ?_ (fun _ => ?_))
      | exact ih0 _ _
      | exact LeO.none _
      | refine LeO.ite ?_ ?_
      | refine LeO.bind ?_ (fun _ => ?_)
set_option maxHeartbeats 8000000 in
set_option maxRecDepth 100000 in
theorem codec_number.calls (k : Nat) (P0_ : Nat → Prop) (u9000_ : Value) (l0 : List Int) (a1 : Int) (r : List Int) (w0 w : World) (hB : Below w0.heap.size w0 w) (ho0 : Kd.R (Kd.int .u8) 5 w w0.heap.size P0_ u9000_ l0) (h : codec_number.f k l0 a1 = some r) :
    Calls Tryd.prog 71 #[u9000_, .int .u64 a1] w fun e w' => ∃ v0_ : Value, e = .returned (v0_) ∧ Kd.R (Kd.int .u8) 5 w' w0.heap.size (fun k_ => (P0_ k_ ∨ w.heap.size ≤ k_)) v0_ r ∧ Below w0.heap.size w0 w' ∧ Kept w w' (fun k_ => P0_ k_) := by
  have HO0 := Aside0.mk (show Kd.R (Kd.int .u8) 5 w w0.heap.size (fun k_ => (P0_ k_ ∨ w.heap.size ≤ k_)) u9000_ l0 from Kd.R_mono ho0 (fun k_ hk => (.inl hk)))
  have HK := Aside0.mk (Kept.refl w (fun k_ => P0_ k_))
  have HW0 := Aside0.mk hB.size
  have HB := Aside0.mk hB
  clear hB
  have H : (codec_number.l0 k l0 a1) = some r := h
  clear h
  have H' := Aside0.mk H
  clear H
  go_enter Tryd.func71, Tryd.ntmps71
  go_wp2
  go_loopg [0, 1] k (fun kq v0 v1 w' => ∃ (x0_1 : List Int) (x1_1 : Int), v1 = .int .u64 x1_1 ∧ Aside0 (codec_number.l0 kq x0_1 x1_1 = some r) ∧ Aside0 (kq ≤ k) ∧ Aside0 (Kd.R (Kd.int .u8) 5 w' w0.heap.size (fun k_ => (P0_ k_ ∨ w.heap.size ≤ k_)) v0 x0_1) ∧ Aside0 (Kept w w' (fun k_ => P0_ k_)) ∧ Aside0 (Below w0.heap.size w0 w'))
  case atStart => exact ⟨(l0), (a1), (by first | rfl | (simp; done) | (simp [*]; done)), H', ⟨Nat.le_refl _⟩, ⟨by (with_reducible repeat (first | apply Kd.R_alloc | apply Kd.R_drewN | apply Kd.R_drew)); exact HO0.out⟩, ⟨by repeat (first | (with_reducible first | exact HK.out | apply Kept.alloc | apply Kept.drewN | apply Kept.drew) | exact HK.out)⟩, ⟨by repeat (first | (with_reducible first | exact HB.out | apply below_alloc | apply pw_below_drewN | apply below_drew1) | exact HB.out)⟩⟩
  case round =>
    clear H'
    try clear p2
    obtain ⟨x0_1, x1_1, rfl, HA, HK1, HO_0, HK, HB⟩ := hrel
    cases gk with
    | zero => exact absurd HA.out (by simp [codec_number.l0])
    | succ k1 =>
      have H := HA.out
      clear HA
      simp only [codec_number.l0] at H
      by_cases c3 : x1_1 ≥ 128
      · rw [if_pos c3] at H
        have c3b0 : decide (128 ≤ x1_1) = true := decide_eq_true c3
        clear c3
        by_cases c4 : x0_1.length < 140737488355328
        · rw [if_pos c4] at H
          have LMc4 := Aside0.mk c4
          clear c4
          obtain ⟨y160, hy160⟩ : ∃ y_ : List Int, y_ = (x0_1 ++ [Go.bits .or .u8 ((x1_1) % 256) 128]) := ⟨_, rfl⟩
          replace H : (codec_number.l0 k1 y160 (x1_1 / 128)) = some r := by first | (rw [hy160]; with_reducible exact H) | (have H2_ := (Option.bind_some _ _).symm.trans H; rw [hy160]; with_reducible exact H2_) | (have H2_ := (Option.bind_some _ _).symm.trans H; with_reducible exact H2_) | with_reducible exact H | (rw [hy160]; exact H) | exact H
          have Ny160 := Aside0.mk hy160
          clear hy160
          have H' := Aside0.mk H
          clear H
          go_wp2_with (first | ((with_reducible refine gate_builtin (b := .append) (xs := #[.tmp 7, .tmp 11]) rfl ?_); at_builtin; refine Kd.R_append (Kd.int .u8) (w0 := w0) w0.heap.size rfl (.tmp 7) (.tmp 11) 22 5 (.int .u8 0) 1 rfl Tryd.underlying22 info5 rfl (by decide) (by omega) u0 x0_1 (Go.bits .or .u8 ((x1_1) % 256) 128) [.int .u8 (Go.bits .or .u8 ((x1_1) % 256) 128)] (fun k_ => (P0_ k_ ∨ w.heap.size ≤ k_)) (fun _ => False) rfl rfl ?aP (fun _ hk => hk.elim) ?aF ?aO ?aB ?aS ?aL ?_; (case aP => exact rfl); (case aB => exact (by repeat (first | (with_reducible first | exact HB.out | apply below_alloc | apply pw_below_drewN | apply below_drew1) | exact HB.out))); (case aF => exact (fun k_ hk => (.inr (Nat.le_trans (by first | exact HK.out.1 | exact (show Kept w _ (fun k_ => P0_ k_) from by repeat (first | (with_reducible first | exact HK.out | apply Kept.alloc | apply Kept.drewN | apply Kept.drew) | exact HK.out)).1) hk)))); (case aO => exact (by (with_reducible repeat (first | apply Kd.R_alloc | apply Kd.R_drewN | apply Kd.R_drew)); exact HO_0.out)); (case aS => exact (below_size (by repeat (first | (with_reducible first | exact HB.out | apply below_alloc | apply pw_below_drewN | apply below_drew1) | exact HB.out)))); (case aL => have := LMc4.out; omega); intro v161 w5 ho hb hg hat; rw [← Ny160.out] at ho; have n0_ := Aside0.mk (hb); have n1_ := Aside0.mk (Kept.of_grown (S := (fun k_ => P0_ k_)) hg (by repeat (first | (with_reducible first | exact HK.out | apply Kept.alloc | apply Kept.drewN | apply Kept.drew) | exact HK.out)) (fun k_ e_ => (HO_0.out.1 k_ e_))); have n2_ := Aside0.mk (ho); clear HB; clear HK; clear HO_0; have HB := n0_; have HK := n1_; have HO162 := n2_; clear n0_ n1_ n2_; clear ho hb hg hat))
          go_roundg k1
          case measure => have := HK1.out; omega
          case rel => exact ⟨(y160), (x1_1 / 128), (by first | rfl | (simp; done) | (simp [*]; done)), H', ⟨by have := HK1.out; omega⟩, ⟨by (with_reducible repeat (first | apply Kd.R_alloc | apply Kd.R_drewN | apply Kd.R_drew)); exact HO162.out⟩, ⟨by repeat (first | (with_reducible first | exact HK.out | apply Kept.alloc | apply Kept.drewN | apply Kept.drew) | exact HK.out)⟩, ⟨by repeat (first | (with_reducible first | exact HB.out | apply below_alloc | apply pw_below_drewN | apply below_drew1) | exact HB.out)⟩⟩
        · rw [if_neg c4] at H
          exact absurd H (by simp)
      · rw [if_neg c3] at H
        have c3b0 : decide (128 ≤ x1_1) = false := decide_eq_false c3
        clear c3
        by_cases c6 : x0_1.length < 140737488355328
        · rw [if_pos c6] at H
          have LMc6 := Aside0.mk c6
          clear c6
          obtain ⟨y163, hy163⟩ : ∃ y_ : List Int, y_ = (x0_1 ++ [(x1_1) % 256]) := ⟨_, rfl⟩
          replace H : (some y163) = some r := by first | (rw [hy163]; with_reducible exact H) | (have H2_ := (Option.bind_some _ _).symm.trans H; rw [hy163]; with_reducible exact H2_) | (have H2_ := (Option.bind_some _ _).symm.trans H; with_reducible exact H2_) | with_reducible exact H | (rw [hy163]; exact H) | exact H
          have Ny163 := Aside0.mk hy163
          clear hy163
          obtain rfl := Option.some.inj H
          go_wp2_with (first | ((with_reducible refine gate_builtin (b := .append) (xs := #[.tmp 15, .tmp 18]) rfl ?_); at_builtin; refine Kd.R_append (Kd.int .u8) (w0 := w0) w0.heap.size rfl (.tmp 15) (.tmp 18) 22 5 (.int .u8 0) 1 rfl Tryd.underlying22 info5 rfl (by decide) (by omega) u0 x0_1 ((x1_1) % 256) [.int .u8 ((x1_1) % 256)] (fun k_ => (P0_ k_ ∨ w.heap.size ≤ k_)) (fun _ => False) rfl rfl ?aP (fun _ hk => hk.elim) ?aF ?aO ?aB ?aS ?aL ?_; (case aP => exact rfl); (case aB => exact (by repeat (first | (with_reducible first | exact HB.out | apply below_alloc | apply pw_below_drewN | apply below_drew1) | exact HB.out))); (case aF => exact (fun k_ hk => (.inr (Nat.le_trans (by first | exact HK.out.1 | exact (show Kept w _ (fun k_ => P0_ k_) from by repeat (first | (with_reducible first | exact HK.out | apply Kept.alloc | apply Kept.drewN | apply Kept.drew) | exact HK.out)).1) hk)))); (case aO => exact (by (with_reducible repeat (first | apply Kd.R_alloc | apply Kd.R_drewN | apply Kd.R_drew)); exact HO_0.out)); (case aS => exact (below_size (by repeat (first | (with_reducible first | exact HB.out | apply below_alloc | apply pw_below_drewN | apply below_drew1) | exact HB.out)))); (case aL => have := LMc6.out; omega); intro v164 w7 ho hb hg hat; rw [← Ny163.out] at ho; have n0_ := Aside0.mk (hb); have n1_ := Aside0.mk (Kept.of_grown (S := (fun k_ => P0_ k_)) hg (by repeat (first | (with_reducible first | exact HK.out | apply Kept.alloc | apply Kept.drewN | apply Kept.drew) | exact HK.out)) (fun k_ e_ => (HO_0.out.1 k_ e_))); have n2_ := Aside0.mk (ho); clear HB; clear HK; clear HO_0; have HB := n0_; have HK := n1_; have HO165 := n2_; clear n0_ n1_ n2_; clear ho hb hg hat))
          go_ret
          exact ⟨_, by first | rfl | (simp [errW_none, errW_some] <;> rfl) | (simp [*, errW_none, errW_some] <;> rfl), by (with_reducible repeat (first | apply Kd.R_alloc | apply Kd.R_drewN | apply Kd.R_drew)); exact HO165.out, by repeat (first | (with_reducible first | exact HB.out | apply below_alloc | apply pw_below_drewN | apply below_drew1) | exact HB.out), by repeat (first | (with_reducible first | exact HK.out | apply Kept.alloc | apply Kept.drewN | apply Kept.drew) | exact HK.out)⟩
        · rw [if_neg c6] at H
          exact absurd H (by simp)

/-! ### codec_twin: function 72 -/
def codec_twin.f (l0 : List Int) (a1 : Int) : Option (List Int) := if 0 ≤ a1 ∧ l0.length + a1.toNat ≤ 281474976710656 then some l0 else none
set_option maxHeartbeats 400000 in
set_option maxRecDepth 100000 in
theorem codec_twin.calls (A0 : Option Addr) (c0 : Nat) (l0 : List Int) (a1 : Int) (r : List Int) (w : World) (hr0 : Kd.C (Kd.int .u8) w A0 l0.length l0) (hc0 : l0.length ≤ c0) (h : codec_twin.f l0 a1 = some r) :
    Calls Tryd.prog 72 #[.slice A0 l0.length c0, .int .i64 a1] w fun e w' => ∃ v0_ : Value, e = .returned (v0_) ∧ Kd.R (Kd.int .u8) 5 w' w.heap.size (fun _ => True) v0_ r ∧ Below w.heap.size w w' := by
  unfold codec_twin.f at h
  split at h
  · rename_i h12
    obtain ⟨h1, h2⟩ := h12
    obtain rfl := Option.some.inj h
    clear h
    have HR0 := Aside0.mk hr0
    clear hr0
    go_enter Tryd.func72, Tryd.ntmps72
    go_wp2_with (first
      | (at_make; go_must (refine R_make_cap (enc := Value.int .u8) (h1 := fun _ => rfl) (w0 := w) w.heap.size 5 rfl (N := 12) rfl 22 _ _ rfl (l0.length : Int) ((l0.length : Int) + a1) rfl rfl Tryd.underlying22 (0 : Int) 1 info5 rfl (by omega) (ok := fun _ => True) trivial (by omega) (by omega) (by omega) (Below.refl _ _) (Nat.le_refl _) ?_); intro v1 w1 ho hb hg hn; (have HO := Aside0.mk ho); (have HB := Aside0.mk hb); clear ho hb hg hn)
      | ((with_reducible refine gate_builtin (b := .copy) (xs := #[.tmp 13, .tmp 14]) rfl ?_); go_must (refine Kd.R_copy (enc := Value.int .u8) (h1 := fun _ => rfl) (0 : Int) (w0 := w) w.heap.size rfl (.tmp 13) (.tmp 14) 22 22 5 rfl Tryd.underlying22 (by kernel_rfl) v1 (List.replicate (l0.length : Int).toNat 0) l0 A0 l0.length c0 (fun _ => True) rfl rfl HO.out (Kd.C_below HR0.out HB.out) HB.out HB.out.size ?_); intro w2 ho2 hb2 hg2; (have HO2 := Aside0.mk ho2); (have HB2 := Aside0.mk hb2); clear ho2 hb2 hg2))
    go_ret
    refine ⟨v1, rfl, ?_, HB2.out⟩
    have h := HO2.out
    simp only [List.length_replicate, Int.toNat_natCast, Nat.min_self, List.take_length, List.drop_replicate, Nat.sub_self, List.replicate_zero, List.append_nil] at h
    exact h
  · cases h

/-! ### codec_PutUint_p: function 57 -/
def codec_PutUint_p.f (k : Nat) (l0 : List Int) (a1 : Int) : Option (List Int) := (codec_twin.f l0 10).bind fun t166 => ((codec_number.f k t166 a1).bind fun t169 => (some t169))
theorem codec_PutUint_p.mono : ∀ a0 a1 k, LeO (codec_PutUint_p.f k a0 a1) (codec_PutUint_p.f (k + 1) a0 a1) := by
  intro a0 a1 k
  unfold codec_PutUint_p.f
  repeat' first
      | (with_reducible exact codec_number.mono _ _ _)
      | (with_reducible exact LeO.refl _)
      | (with_reducible exact LeO.none _)
      | (with_reducible refine LeO.ite ?_ ?_)
      | (with_reducible refine LeO.bind ?_ (fun _ => ?_))
      | exact codec_number.mono _ _ _
      | exact LeO.none _
      | refine LeO.ite ?_ ?_
      | refine LeO.bind ?_ (fun _ => ?_)
set_option maxHeartbeats 8000000 in
set_option maxRecDepth 100000 in
theorem codec_PutUint_p.calls (k : Nat) (A0 : Option Addr) (c0 : Nat) (l0 : List Int) (a1 : Int) (r : List Int) (w : World) (hr0 : Kd.C (Kd.int .u8) w A0 l0.length l0) (hc0 : l0.length ≤ c0) (h : codec_PutUint_p.f k l0 a1 = some r) :
    Calls Tryd.prog 57 #[.slice A0 l0.length c0, .int .u64 a1] w fun e w' => ∃ v0_ : Value, e = .returned (v0_) ∧ Kd.R (Kd.int .u8) 5 w' w.heap.size (fun _ => True) v0_ r ∧ Below w.heap.size w w' := by
  have HR0 := Aside0.mk hr0
  have HC0 := Aside0.mk hc0
  clear hr0 hc0
  have HB := Aside0.mk (Below.refl w.heap.size w)
  have H : ((codec_twin.f l0 10).bind fun t166 => ((codec_number.f k t166 a1).bind fun t169 => (some t169))) = some r := h
  clear h
  replace H := Option.bind_eq_some_iff.mp H
  obtain ⟨t166, A30, H⟩ := H
  replace H : ((codec_number.f k t166 a1).bind fun t169 => (some t169)) = some r := H
  have A3 := Aside0.mk A30
  clear A30
  replace H := Option.bind_eq_some_iff.mp H
  obtain ⟨t169, A40, H⟩ := H
  replace H : (some t169) = some r := H
  have A4 := Aside0.mk A40
  clear A40
  obtain rfl := Option.some.inj H
  go_enter Tryd.func57, Tryd.ntmps57
  go_wp2_with (first | ((with_reducible refine gate_callee (f := 72) rfl ?_); refine goesL_ (some 6) rfl rfl Tryd.func72 (by kernel_rfl) rfl #[.slice A0 l0.length c0, .int .i64 10] rfl (by (try simp only [List.map_toArray, List.map_cons, List.map_nil]); first | done | rfl | (simp only [List.length_drop, List.length_take]; rfl)) ?_; (with_reducible refine (codec_twin.calls _ _ l0 10 t166 _ ?side1 ?side2 A3.out).mono ?_); (case side1 => repeat (first | exact HR0.out | (with_reducible refine Kd.C_alloc ?_ _) | (with_reducible refine Kd.C_drewN ?_ _) | (with_reducible refine Kd.C_drew ?_))); (case side2 => exact HC0.out); rintro e w5 ⟨v167, rfl, ho0, hb⟩; refine ⟨_, rfl, ?_⟩; have n0_ := Aside0.mk (Kd.R_lower ho0 (below_size (by repeat (first | (with_reducible first | exact HB.out | apply below_alloc | apply pw_below_drewN | apply below_drew1) | exact HB.out)))); have n1_ := Aside0.mk (below_step (by repeat (first | (with_reducible first | exact HB.out | apply below_alloc | apply pw_below_drewN | apply below_drew1) | exact HB.out)) hb); clear HB; have HO168 := n0_; have HB := n1_; clear n0_ n1_; (try clear hb); (try clear hb2); (try clear hk); (try clear hi); (try clear ho0); obtain ⟨Ao6, co6, eo6⟩ := Kd.R_slice HO168.out; subst eo6) | ((with_reducible refine gate_callee (f := 71) rfl ?_); refine goesL_ (some 8) rfl rfl Tryd.func71 (by kernel_rfl) rfl #[.slice Ao6 t166.length co6, .int .u64 a1] rfl (by (try simp only [List.map_toArray, List.map_cons, List.map_nil]); first | done | rfl | (simp only [List.length_drop, List.length_take]; rfl)) ?_; (with_reducible refine (codec_number.calls k (fun k_ => some k_ = (.slice Ao6 t166.length co6 : Value).ownBlock) (.slice Ao6 t166.length co6) t166 a1 t169 w _ ?side1 ?side2 A4.out).mono ?_); (case side1 => repeat (first | (with_reducible first | exact HB.out | apply below_alloc | apply pw_below_drewN | apply below_drew1) | exact HB.out)); (case side2 => exact Kd.R_tight rfl HO168.out); rintro e w7 ⟨v170, rfl, ho0, hb, hkp⟩; refine ⟨_, rfl, ?_⟩; have n0_ := Aside0.mk (Kd.R_mono (ok' := fun k_ => True) ho0 (fun k_ hk_ => trivial)); have n1_ := Aside0.mk (hb); clear HB; clear HO168; have HO171 := n0_; have HB := n1_; clear n0_ n1_; (try clear hb); (try clear hkp); (try clear ho0)))
  go_ret
  exact ⟨_, by first | rfl | (simp [errW_none, errW_some] <;> rfl) | (simp [*, errW_none, errW_some] <;> rfl), by (with_reducible repeat (first | apply Kd.R_alloc | apply Kd.R_drewN | apply Kd.R_drew)); exact HO171.out, by repeat (first | (with_reducible first | exact HB.out | apply below_alloc | apply pw_below_drewN | apply below_drew1) | exact HB.out)⟩

/-! ### codec_PutUint: function 57 -/
theorem codec_number_ev (n : Nat) : ∀ l : List Int, n < 18446744073709551616 → l.length + (numL n).length ≤ 140737488355328 → Ev (fun k => codec_number.l0 k l (n : Int)) (l ++ numL n) := by
  induction n using Nat.strongRecOn with
  | _ n ih =>
    intro l hn hl
    by_cases h : n < 128
    · rw [numL_small h] at hl ⊢
      refine Ev.step (f := fun _ => some (l ++ [(n : Int)])) (fun k => ?_) (Ev.now _)
      simp only [codec_number.l0]
      rw [if_neg (by omega), if_pos (by simp at hl; omega), show (n : Int) % 256 = n by omega]
    · rw [numL_big h] at hl ⊢
      simp only [List.length_cons] at hl
      have h2 := ih (n / 128) (by omega) (l ++ [((n % 128 + 128 : Nat) : Int)]) (by omega) (by simp; omega)
      rw [List.append_assoc] at h2
      refine Ev.step (fun k => ?_) h2
      simp only [codec_number.l0]
      rw [if_pos (by omega), if_pos (by omega), own_or128 _ (by omega)]
      rfl
def codec_PutUint.f (l0 : List Int) (a1 : Int) : Option (List Int) := if 0 ≤ a1 ∧ a1 < 18446744073709551616 ∧ l0.length ≤ 140737488355000 then some (l0 ++ numL a1.toNat) else none
theorem codec_PutUint.calls (A0 : Option Addr) (c0 : Nat) (l0 : List Int) (a1 : Int) (r : List Int) (w : World) (hr0 : Kd.C (Kd.int .u8) w A0 l0.length l0) (hc0 : l0.length ≤ c0) (h : codec_PutUint.f l0 a1 = some r) :
    Calls Tryd.prog 57 #[.slice A0 l0.length c0, .int .u64 a1] w fun e w' => ∃ v0_ : Value, e = .returned (v0_) ∧ Kd.R (Kd.int .u8) 5 w' w.heap.size (fun _ => True) v0_ r ∧ Below w.heap.size w w' := by
  unfold codec_PutUint.f at h
  split at h
  · rename_i hh
    obtain ⟨n, rfl⟩ := Int.eq_ofNat_of_zero_le hh.1
    have h10 := numL_len10 (n := n) (by omega)
    obtain ⟨k, hk⟩ := (codec_number_ev n l0 (by omega) (by omega)).rounds
    refine codec_PutUint_p.calls k A0 c0 l0 _ r w hr0 hc0 ?_
    unfold codec_PutUint_p.f codec_twin.f codec_number.f
    rw [if_pos (by omega)]
    simp only [Option.bind_some]
    rw [hk]
    exact h
  · cases h

/-! ### codec_PutText_p: function 58 -/
def codec_PutText_p.f (k : Nat) (l0 : List Int) (a1 : ByteArray) : Option (List Int) := (codec_twin.f l0 (wrap64 (10 + (a1.size : Int)))).bind fun t172 => ((codec_number.f k t172 (IntKind.u64.wrap ((a1.size : Int)))).bind fun t175 => (if t175.length + a1.size < 140737488355328 then (some (t175 ++ bytesOf a1)) else (none)))
theorem codec_PutText_p.mono : ∀ a0 a1 k, LeO (codec_PutText_p.f k a0 a1) (codec_PutText_p.f (k + 1) a0 a1) := by
  intro a0 a1 k
  unfold codec_PutText_p.f
  repeat' first
      | (with_reducible exact codec_number.mono _ _ _)
      | (with_reducible exact LeO.refl _)
      | (with_reducible exact LeO.none _)
      | (with_reducible refine LeO.ite ?_ ?_)
      | (with_reducible refine LeO.bind ?_ (fun _ => ?_))
      | exact codec_number.mono _ _ _
      | exact LeO.none _
      | refine LeO.ite ?_ ?_
      | refine LeO.bind ?_ (fun _ => ?_)
set_option maxHeartbeats 8000000 in
set_option maxRecDepth 100000 in
theorem codec_PutText_p.calls (k : Nat) (A0 : Option Addr) (c0 : Nat) (l0 : List Int) (a1 : ByteArray) (r : List Int) (w : World) (hr0 : Kd.C (Kd.int .u8) w A0 l0.length l0) (hc0 : l0.length ≤ c0) (h : codec_PutText_p.f k l0 a1 = some r) :
    Calls Tryd.prog 58 #[.slice A0 l0.length c0, .string a1] w fun e w' => ∃ v0_ : Value, e = .returned (v0_) ∧ Kd.R (Kd.int .u8) 5 w' w.heap.size (fun _ => True) v0_ r ∧ Below w.heap.size w w' := by
  have HR0 := Aside0.mk hr0
  have HC0 := Aside0.mk hc0
  clear hr0 hc0
  have HB := Aside0.mk (Below.refl w.heap.size w)
  have H : ((codec_twin.f l0 (wrap64 (10 + (a1.size : Int)))).bind fun t172 => ((codec_number.f k t172 (IntKind.u64.wrap ((a1.size : Int)))).bind fun t175 => (if t175.length + a1.size < 140737488355328 then (some (t175 ++ bytesOf a1)) else (none)))) = some r := h
  clear h
  replace H := Option.bind_eq_some_iff.mp H
  obtain ⟨t172, A30, H⟩ := H
  replace H : ((codec_number.f k t172 (IntKind.u64.wrap ((a1.size : Int)))).bind fun t175 => (if t175.length + a1.size < 140737488355328 then (some (t175 ++ bytesOf a1)) else (none))) = some r := H
  have A3 := Aside0.mk A30
  clear A30
  replace H := Option.bind_eq_some_iff.mp H
  obtain ⟨t175, A40, H⟩ := H
  replace H : (if t175.length + a1.size < 140737488355328 then (some (t175 ++ bytesOf a1)) else (none)) = some r := H
  have A4 := Aside0.mk A40
  clear A40
  by_cases c5 : t175.length + a1.size < 140737488355328
  · rw [if_pos c5] at H
    have LMc5 := Aside0.mk c5
    clear c5
    obtain ⟨y178, hy178⟩ : ∃ y_ : List Int, y_ = (t175 ++ bytesOf a1) := ⟨_, rfl⟩
    replace H : (some y178) = some r := by first | (rw [hy178]; with_reducible exact H) | (have H2_ := (Option.bind_some _ _).symm.trans H; rw [hy178]; with_reducible exact H2_) | (have H2_ := (Option.bind_some _ _).symm.trans H; with_reducible exact H2_) | with_reducible exact H | (rw [hy178]; exact H) | exact H
    have Ny178 := Aside0.mk hy178
    clear hy178
    obtain rfl := Option.some.inj H
    go_enter Tryd.func58, Tryd.ntmps58
    go_wp2_with (first | ((with_reducible refine gate_callee (f := 72) rfl ?_); refine goesL_ (some 9) rfl rfl Tryd.func72 (by kernel_rfl) rfl #[.slice A0 l0.length c0, .int .i64 (wrap64 (10 + (a1.size : Int)))] rfl (by (try simp only [List.map_toArray, List.map_cons, List.map_nil]); first | done | rfl | (simp only [List.length_drop, List.length_take]; rfl)) ?_; (with_reducible refine (codec_twin.calls _ _ l0 (wrap64 (10 + (a1.size : Int))) t172 _ ?side1 ?side2 A3.out).mono ?_); (case side1 => repeat (first | exact HR0.out | (with_reducible refine Kd.C_alloc ?_ _) | (with_reducible refine Kd.C_drewN ?_ _) | (with_reducible refine Kd.C_drew ?_))); (case side2 => exact HC0.out); rintro e w6 ⟨v173, rfl, ho0, hb⟩; refine ⟨_, rfl, ?_⟩; have n0_ := Aside0.mk (Kd.R_lower ho0 (below_size (by repeat (first | (with_reducible first | exact HB.out | apply below_alloc | apply pw_below_drewN | apply below_drew1) | exact HB.out)))); have n1_ := Aside0.mk (below_step (by repeat (first | (with_reducible first | exact HB.out | apply below_alloc | apply pw_below_drewN | apply below_drew1) | exact HB.out)) hb); clear HB; have HO174 := n0_; have HB := n1_; clear n0_ n1_; (try clear hb); (try clear hb2); (try clear hk); (try clear hi); (try clear ho0); obtain ⟨Ao7, co7, eo7⟩ := Kd.R_slice HO174.out; subst eo7) | ((with_reducible refine gate_callee (f := 71) rfl ?_); refine goesL_ (some 13) rfl rfl Tryd.func71 (by kernel_rfl) rfl #[.slice Ao7 t172.length co7, .int .u64 (IntKind.u64.wrap ((a1.size : Int)))] rfl (by (try simp only [List.map_toArray, List.map_cons, List.map_nil]); first | done | rfl | (simp only [List.length_drop, List.length_take]; rfl)) ?_; (with_reducible refine (codec_number.calls k (fun k_ => some k_ = (.slice Ao7 t172.length co7 : Value).ownBlock) (.slice Ao7 t172.length co7) t172 (IntKind.u64.wrap ((a1.size : Int))) t175 w _ ?side1 ?side2 A4.out).mono ?_); (case side1 => repeat (first | (with_reducible first | exact HB.out | apply below_alloc | apply pw_below_drewN | apply below_drew1) | exact HB.out)); (case side2 => exact Kd.R_tight rfl HO174.out); rintro e w8 ⟨v176, rfl, ho0, hb, hkp⟩; refine ⟨_, rfl, ?_⟩; have n0_ := Aside0.mk (Kd.R_mono (ok' := fun k_ => True) ho0 (fun k_ hk_ => trivial)); have n1_ := Aside0.mk (hb); clear HB; clear HO174; have HO177 := n0_; have HB := n1_; clear n0_ n1_; (try clear hb); (try clear hkp); (try clear ho0)) | (at_builtin; refine print_append_str (w0 := w) w.heap.size rfl (.tmp 13) _ 22 9 5 rfl Tryd.underlying22 Tryd.underlying9 info5 v176 t175 a1 rfl rfl ?aO ?aB ?aS ?aL ?_; (case aB => exact (by repeat (first | (with_reducible first | exact HB.out | apply below_alloc | apply pw_below_drewN | apply below_drew1) | exact HB.out))); (case aO => exact (Kd.own_of_R (by (with_reducible repeat (first | apply Kd.R_alloc | apply Kd.R_drewN | apply Kd.R_drew)); exact HO177.out))); (case aS => exact (below_size (by repeat (first | (with_reducible first | exact HB.out | apply below_alloc | apply pw_below_drewN | apply below_drew1) | exact HB.out)))); (case aL => have := LMc5.out; omega); intro v179 w9 ho0 hb hg; have ho := Kd.R_of_own (h1 := fun _ => rfl) (ok := fun _ => True) ho0 (fun _ _ => trivial); clear ho0; have hat := True.intro; rw [← Ny178.out] at ho; change Kd.R (Kd.int .u8) 5 w9 w.heap.size (fun _ => True) v179 y178 at ho; have n0_ := Aside0.mk (hb); have n1_ := Aside0.mk (ho); clear HB; clear HO177; have HB := n0_; have HO180 := n1_; clear n0_ n1_; clear ho hb hg hat))
    go_ret
    exact ⟨_, by first | rfl | (simp [errW_none, errW_some] <;> rfl) | (simp [*, errW_none, errW_some] <;> rfl), by (with_reducible repeat (first | apply Kd.R_alloc | apply Kd.R_drewN | apply Kd.R_drew)); exact HO180.out, by repeat (first | (with_reducible first | exact HB.out | apply below_alloc | apply pw_below_drewN | apply below_drew1) | exact HB.out)⟩
  · rw [if_neg c5] at H
    exact absurd H (by simp)

/-! ### codec_PutText: function 58 -/
def codec_PutText.f (l0 : List Int) (a1 : ByteArray) : Option (List Int) := if l0.length + a1.size ≤ 140737488355000 then some (l0 ++ (numL a1.size ++ bytesOf a1)) else none
theorem codec_PutText.calls (A0 : Option Addr) (c0 : Nat) (l0 : List Int) (a1 : ByteArray) (r : List Int) (w : World) (hr0 : Kd.C (Kd.int .u8) w A0 l0.length l0) (hc0 : l0.length ≤ c0) (h : codec_PutText.f l0 a1 = some r) :
    Calls Tryd.prog 58 #[.slice A0 l0.length c0, .string a1] w fun e w' => ∃ v0_ : Value, e = .returned (v0_) ∧ Kd.R (Kd.int .u8) 5 w' w.heap.size (fun _ => True) v0_ r ∧ Below w.heap.size w w' := by
  unfold codec_PutText.f at h
  split at h
  · rename_i hh
    have h10 := numL_len10 (n := a1.size) (by omega)
    obtain ⟨k, hk⟩ := (codec_number_ev a1.size l0 (by omega) (by omega)).rounds
    refine codec_PutText_p.calls k A0 c0 l0 a1 r w hr0 hc0 ?_
    unfold codec_PutText_p.f codec_twin.f codec_number.f
    have hw : wrap64 (10 + (a1.size : Int)) = 10 + (a1.size : Int) := by unfold wrap64; omega
    have hu : IntKind.u64.wrap (a1.size : Int) = (a1.size : Int) := u64_nat (by omega)
    rw [hw, hu, if_pos (by omega)]
    simp only [Option.bind_some]
    rw [hk]
    simp only [Option.bind_some]
    rw [if_pos (by simp; omega), ← h, List.append_assoc]
  · cases h

end Go.Proofs.YtnamanalacjhnaaDoor.QBk
-- Printed by a program of this claim's own out of the translation.
namespace Go.Proofs.YtnamanalacjhnaaDoor.QBk
open Go.Proofs.YtnamanalacjhnaaDoor.Own
open Go.RowKit Go.Proofs.YtnamanalacjhnaaDoorW.PrintWords Go.Proofs.YtnamanalacjhnaaDoorW.PrintLast Go.Proofs.YtnamanalacjhnaaDoorW.PrintMore
attribute [local go_sem] max2_int min2_int max_two min_two max_three min_three max_four min_four   -- for this text's walks alone
set_option linter.unusedVariables false
set_option linter.unusedSimpArgs false

/-! ### log_Put: function 25 -/
mutual
def log_Put.l0 : Nat → List Int → List (List (S67)) → Int → Int → Option (List Int)
  | 0, _, _, _, _ => none
  | k + 1, x5, x18, x19, x20 => if x20 < x19 then (if 0 ≤ x20 then (if x20 < (x18.length : Int) then ((codec_PutUint.f ([] : List Int) (IntKind.u64.wrap (((rd_L5 x18 x20).length : Int)))).bind fun t191 => (if x5.length + t191.length < 140737488355328 then (log_Put.l1 k (x5 ++ t191) x18 x19 x20 (rd_L5 x18 x20) ((rd_L5 x18 x20).length : Int) 0) else (none))) else (none)) else (none)) else (some x5)
def log_Put.l1 : Nat → List Int → List (List (S67)) → Int → Int → List (S67) → Int → Int → Option (List Int)
  | 0, _, _, _, _, _, _, _ => none
  | k + 1, x5, x18, x19, x20, x30, x31, x32 => if x32 < x31 then (if 0 ≤ x32 then (if x32 < (x30.length : Int) then (if (rd_T67 x30 x32).f1 = true then (if x5.length < 140737488355328 then ((some (x5 ++ [1] : List Int)).bind fun y199 => ((codec_PutText.f ([] : List Int) ((rd_T67 x30 x32).f0)).bind fun t202 => (if y199.length + t202.length < 140737488355328 then (log_Put.l1 k (y199 ++ t202) x18 x19 x20 x30 x31 (wrap64 (x32 + 1))) else (none)))) else (none)) else (if x5.length < 140737488355328 then ((some (x5 ++ [0] : List Int)).bind fun y208 => ((codec_PutText.f ([] : List Int) ((rd_T67 x30 x32).f0)).bind fun t211 => (if y208.length + t211.length < 140737488355328 then ((some (y208 ++ t211 : List Int)).bind fun y214 => ((codec_PutText.f ([] : List Int) ((rd_T67 x30 x32).f2)).bind fun t217 => (if y214.length + t217.length < 140737488355328 then (log_Put.l1 k (y214 ++ t217) x18 x19 x20 x30 x31 (wrap64 (x32 + 1))) else (none)))) else (none)))) else (none))) else (none)) else (none)) else (log_Put.l0 k x5 x18 x19 (wrap64 (x20 + 1)))
end
def log_Put.f (k : Nat) (a0 : Int) (l1 : List (List (S67))) : Option (List Int) := (codec_PutUint.f ([] : List Int) a0).bind fun t181 => ((codec_PutUint.f ([] : List Int) (IntKind.u64.wrap ((l1.length : Int)))).bind fun t184 => (if t181.length + t184.length < 140737488355328 then (log_Put.l0 k (t181 ++ t184) l1 (l1.length : Int) 0) else (none)))
theorem log_Put.mono_l : ∀ k, (∀ y0 y1 y2 y3, LeO (log_Put.l0 k y0 y1 y2 y3) (log_Put.l0 (k + 1) y0 y1 y2 y3)) ∧ (∀ y0 y1 y2 y3 y4 y5 y6, LeO (log_Put.l1 k y0 y1 y2 y3 y4 y5 y6) (log_Put.l1 (k + 1) y0 y1 y2 y3 y4 y5 y6))
  | 0 => ⟨fun _ _ _ _ r h => by simp [log_Put.l0] at h, fun _ _ _ _ _ _ _ r h => by simp [log_Put.l1] at h⟩
  | k + 1 => by
    obtain ⟨ih0, ih1⟩ := log_Put.mono_l k
    refine ⟨?_, ?_⟩
    · intro y0 y1 y2 y3
      unfold log_Put.l0
      repeat' first
      | (with_reducible exact ih0 _ _ _ _)
      | (with_reducible exact ih1 _ _ _ _ _ _ _)
      | (with_reducible exact LeO.refl _)
      | (with_reducible exact LeO.none _)
      | (with_reducible refine LeO.ite ?_ ?_)
      | (with_reducible refine LeO.bind ?_ (fun _ => ?_))
      | exact ih0 _ _ _ _
      | exact ih1 _ _ _ _ _ _ _
      | exact LeO.none _
      | refine LeO.ite ?_ ?_
      | refine LeO.bind ?_ (fun _ => ?_)
    · intro y0 y1 y2 y3 y4 y5 y6
      unfold log_Put.l1
      repeat' first
      | (with_reducible exact ih0 _ _ _ _)
      | (with_reducible exact ih1 _ _ _ _ _ _ _)
      | (with_reducible exact LeO.refl _)
      | (with_reducible exact LeO.none _)
      | (with_reducible refine LeO.ite ?_ ?_)
      | (with_reducible refine LeO.bind ?_ (fun _ => ?_))
      | exact ih0 _ _ _ _
      | exact ih1 _ _ _ _ _ _ _
      | exact LeO.none _
      | refine LeO.ite ?_ ?_
      | refine LeO.bind ?_ (fun _ => ?_)
theorem log_Put.mono : ∀ a0 a1 k, LeO (log_Put.f k a0 a1) (log_Put.f (k + 1) a0 a1) := by
  intro a0 a1 k
  obtain ⟨ih0, ih1⟩ := log_Put.mono_l k
  unfold log_Put.f
  repeat' first
      | (with_reducible exact ih0 _ _ _ _)
      | (with_reducible exact ih1 _ _ _ _ _ _ _)
      | (with_reducible exact LeO.refl _)
      | (with_reducible exact LeO.none _)
      | (with_reducible refine LeO.ite ?_ ?_)
      | (with_reducible refine LeO.bind ?_ (fun _ => ?_))
      | exact ih0 _ _ _ _
      | exact ih1 _ _ _ _ _ _ _
      | exact LeO.none _
      | refine LeO.ite ?_ ?_
      | refine LeO.bind ?_ (fun _ => ?_)
def log_Put.T11 : Bool × List (List Nat × List Nat) := (true, [([], []), ([], []), ([0, 1], [0, 1]), ([], []), ([3], [3]), ([4, 2], [4]), ([2, 5, 5], [2, 5]), ([6, 6, 0, 1, 2, 3, 4, 5, 6], [0, 6])])
def log_Put.B11 : List Nat := [0, 0, 3, 0, 8, 31, 63, 127]
theorem log_Put.tab11 : rtab .any (opsOf Tryd.f25 11) = log_Put.T11 := by kernel_rfl
theorem log_Put.bits11 : waitsOk log_Put.T11.2 log_Put.B11 = true := by kernel_rfl
def log_Put.T12 : Bool × List (List Nat × List Nat) := (true, [([], []), ([], []), ([0, 1], [0, 1]), ([], []), ([3], [3]), ([4, 2], [4]), ([2, 5, 5], [2, 5]), ([6, 6, 0, 1, 2, 3, 4, 5, 6], [0, 6])])
def log_Put.B12 : List Nat := [0, 0, 3, 0, 8, 31, 63, 127]
theorem log_Put.tab12 : rtab .any (opsOf Tryd.f25 12) = log_Put.T12 := by kernel_rfl
theorem log_Put.bits12 : waitsOk log_Put.T12.2 log_Put.B12 = true := by kernel_rfl
set_option maxHeartbeats 8000000 in
set_option maxRecDepth 100000 in
theorem log_Put.calls (k : Nat) (a0 : Int) (A1 : Option Addr) (c1 : Nat) (l1 : List (List (S67))) (r : List Int) (w : World) (hr1 : Kd.C (Kd.slice 67 k67) w A1 l1.length l1) (hc1 : l1.length ≤ c1) (h : log_Put.f k a0 l1 = some r) :
    Calls Tryd.prog 25 #[.int .u64 a0, .slice A1 l1.length c1] w fun e w' => ∃ v0_ : Value, e = .returned (v0_) ∧ Kd.R (Kd.int .u8) 5 w' w.heap.size (fun _ => True) v0_ r ∧ Below w.heap.size w w' := by
  have hu67 := Tryd.underlying67
  have HR1 := Aside0.mk hr1
  have HC1 := Aside0.mk hc1
  clear hr1 hc1
  have HB := Aside0.mk (Below.refl w.heap.size w)
  have H : ((codec_PutUint.f ([] : List Int) a0).bind fun t181 => ((codec_PutUint.f ([] : List Int) (IntKind.u64.wrap ((l1.length : Int)))).bind fun t184 => (if t181.length + t184.length < 140737488355328 then (log_Put.l0 k (t181 ++ t184) l1 (l1.length : Int) 0) else (none)))) = some r := h
  clear h
  replace H := Option.bind_eq_some_iff.mp H
  obtain ⟨t181, A30, H⟩ := H
  replace H : ((codec_PutUint.f ([] : List Int) (IntKind.u64.wrap ((l1.length : Int)))).bind fun t184 => (if t181.length + t184.length < 140737488355328 then (log_Put.l0 k (t181 ++ t184) l1 (l1.length : Int) 0) else (none))) = some r := H
  have A3 := Aside0.mk A30
  clear A30
  replace H := Option.bind_eq_some_iff.mp H
  obtain ⟨t184, A40, H⟩ := H
  replace H : (if t181.length + t184.length < 140737488355328 then (log_Put.l0 k (t181 ++ t184) l1 (l1.length : Int) 0) else (none)) = some r := H
  have A4 := Aside0.mk A40
  clear A40
  by_cases c5 : t181.length + t184.length < 140737488355328
  · rw [if_pos c5] at H
    have LMc5 := Aside0.mk c5
    clear c5
    obtain ⟨y187, hy187⟩ : ∃ y_ : List Int, y_ = (t181 ++ t184) := ⟨_, rfl⟩
    replace H : (log_Put.l0 k y187 l1 (l1.length : Int) 0) = some r := by first | (rw [hy187]; with_reducible exact H) | (have H2_ := (Option.bind_some _ _).symm.trans H; rw [hy187]; with_reducible exact H2_) | (have H2_ := (Option.bind_some _ _).symm.trans H; with_reducible exact H2_) | with_reducible exact H | (rw [hy187]; exact H) | exact H
    have Ny187 := Aside0.mk hy187
    clear hy187
    have H' := Aside0.mk H
    clear H
    go_enter Tryd.func25, Tryd.ntmps25
    go_wp2_with (first | ((with_reducible refine gate_callee (f := 57) rfl ?_); refine goesL_ (some 11) rfl rfl Tryd.func57 (by kernel_rfl) rfl #[.slice none 0 0, .int .u64 a0] rfl (by (try simp only [List.map_toArray, List.map_cons, List.map_nil]); first | done | rfl | (simp only [List.length_drop, List.length_take]; rfl)) ?_; (refine (codec_PutUint.calls _ _ ([] : List Int) a0 t181 _ ?side1 ?side2 A3.out).mono ?_); (case side1 => exact Kd.C_nil _ _); (case side2 => exact Nat.le_refl _); rintro e w6 ⟨v182, rfl, ho0, hb⟩; refine ⟨_, rfl, ?_⟩; have n0_ := Aside0.mk (Kd.R_lower ho0 (below_size (by repeat (first | (with_reducible first | exact HB.out | apply below_alloc | apply pw_below_drewN | apply below_drew1) | exact HB.out)))); have n1_ := Aside0.mk (below_step (by repeat (first | (with_reducible first | exact HB.out | apply below_alloc | apply pw_below_drewN | apply below_drew1) | exact HB.out)) hb); clear HB; have HO183 := n0_; have HB := n1_; clear n0_ n1_; (try clear hb); (try clear hb2); (try clear hk); (try clear hi); (try clear ho0)) | ((with_reducible refine gate_callee (f := 57) rfl ?_); refine goesL_ (some 16) rfl rfl Tryd.func57 (by kernel_rfl) rfl #[.slice none 0 0, .int .u64 (IntKind.u64.wrap ((l1.length : Int)))] rfl (by (try simp only [List.map_toArray, List.map_cons, List.map_nil]); first | done | rfl | (simp only [List.length_drop, List.length_take]; rfl)) ?_; (refine (codec_PutUint.calls _ _ ([] : List Int) (IntKind.u64.wrap ((l1.length : Int))) t184 _ ?side1 ?side2 A4.out).mono ?_); (case side1 => exact Kd.C_nil _ _); (case side2 => exact Nat.le_refl _); rintro e w7 ⟨v185, rfl, ho0, hb⟩; refine ⟨_, rfl, ?_⟩; have n0_ := Aside0.mk (Kd.R_elder' (by (with_reducible repeat (first | apply Kd.R_alloc | apply Kd.R_drewN | apply Kd.R_drew)); exact HO183.out) (Kd.R_base ho0) hb); have n1_ := Aside0.mk (Kd.R_lower (Kd.R_new' ho0 (Kd.R_lt (by (with_reducible repeat (first | apply Kd.R_alloc | apply Kd.R_drewN | apply Kd.R_drew)); exact HO183.out))) (below_size (by repeat (first | (with_reducible first | exact HB.out | apply below_alloc | apply pw_below_drewN | apply below_drew1) | exact HB.out)))); have n2_ := Aside0.mk (below_step (by repeat (first | (with_reducible first | exact HB.out | apply below_alloc | apply pw_below_drewN | apply below_drew1) | exact HB.out)) hb); clear HO183; clear HB; have HO183 := n0_; have HO186 := n1_; have HB := n2_; clear n0_ n1_ n2_; (try clear hb); (try clear hb2); (try clear hk); (try clear hi); (try clear ho0); obtain ⟨Ao9, co9, eo9⟩ := Kd.R_slice HO186.out; subst eo9) | ((with_reducible refine gate_builtin (b := .append) (xs := #[.tmp 12, .tmp 16]) rfl ?_); at_builtin; refine Kd.R_append_rows (Kd.int .u8) (w0 := w) w.heap.size rfl (.tmp 12) (.tmp 16) 22 5 (.int .u8 0) 1 rfl Tryd.underlying22 info5 rfl (by decide) (by omega) v182 t181 t184 _ _ _ (fun k_ => some k_ ≠ (.slice Ao9 t184.length co9 : Value).ownBlock) (fun _ => False) rfl rfl ?aO ?aR (fun _ _ h => h) (fun _ h => h.elim) ?aF ?aB ?aS ?aL ?_; (case aR => repeat (first | exact (Kd.R_reads' HO186.out).2.2 | (with_reducible refine Kd.C_alloc ?_ _) | (with_reducible refine Kd.C_drewN ?_ _) | (with_reducible refine Kd.C_drew ?_))); (case aB => exact (by repeat (first | (with_reducible first | exact HB.out | apply below_alloc | apply pw_below_drewN | apply below_drew1) | exact HB.out))); (case aF => exact (fun k_ hk => Kd.fresh' (Kd.R_lt (by (with_reducible repeat (first | apply Kd.R_alloc | apply Kd.R_drewN | apply Kd.R_drew)); exact HO186.out)) k_ hk)); (case aO => exact (by (with_reducible repeat (first | apply Kd.R_alloc | apply Kd.R_drewN | apply Kd.R_drew)); exact Kd.R_mono HO183.out (fun _ hk => hk.2))); (case aS => exact (below_size (by repeat (first | (with_reducible first | exact HB.out | apply below_alloc | apply pw_below_drewN | apply below_drew1) | exact HB.out)))); (case aL => have := LMc5.out; omega); intro v188 w8 ho hb hg hat; rw [← Ny187.out] at ho; have n0_ := Aside0.mk (Kd.R_after (ok := (fun _ => True)) (by (with_reducible repeat (first | apply Kd.R_alloc | apply Kd.R_drewN | apply Kd.R_drew)); exact HO186.out) hg hat); have n1_ := Aside0.mk (hb); have n2_ := Aside0.mk (ho); clear HO186; clear HB; clear HO183; have HO186 := n0_; have HB := n1_; have HO189 := n2_; clear n0_ n1_ n2_; clear ho hb hg hat))
    go_loopg [5, 20] k (fun kq v5 v20 w' => ∃ (x5_1 : List Int) (x20_1 : Int), v20 = .int .i64 x20_1 ∧ Aside0 (log_Put.l0 kq x5_1 l1 (l1.length : Int) x20_1 = some r) ∧ Aside0 (kq ≤ k) ∧ Aside0 (Kd.R (Kd.int .u8) 5 w' w.heap.size (fun _ => True) v5 x5_1) ∧ Aside0 (Below w.heap.size w w'))
    case atStart => exact ⟨(y187), (0), (by first | rfl | (simp; done) | (simp [*]; done)), H', ⟨Nat.le_refl _⟩, ⟨by (with_reducible repeat (first | apply Kd.R_alloc | apply Kd.R_drewN | apply Kd.R_drew)); exact Kd.R_mono HO189.out (fun _ hk => trivial)⟩, ⟨by repeat (first | (with_reducible first | exact HB.out | apply below_alloc | apply pw_below_drewN | apply below_drew1) | exact HB.out)⟩⟩
    case round =>
      clear H'
      try clear c1
      try clear c2
      try clear p2
      try clear c5
      obtain ⟨x5_1, x20_1, rfl, HA, HK1, HO_5, HB⟩ := hrel
      cases gk with
      | zero => exact absurd HA.out (by simp [log_Put.l0])
      | succ k1 =>
        have H := HA.out
        clear HA
        simp only [log_Put.l0] at H
        by_cases c10 : x20_1 < (l1.length : Int)
        · rw [if_pos c10] at H
          have c10b0 : decide (x20_1 < (l1.length : Int)) = true := decide_eq_true c10
          clear c10
          by_cases c11 : 0 ≤ x20_1
          · rw [if_pos c11] at H
            have c11b0 : decide (0 ≤ x20_1) = true := decide_eq_true c11
            clear c11
            by_cases c12 : x20_1 < (l1.length : Int)
            · rw [if_pos c12] at H
              have c12b0 : decide (x20_1 < (l1.length : Int)) = true := decide_eq_true c12
              clear c12
              replace H := Option.bind_eq_some_iff.mp H
              obtain ⟨t191, A130, H⟩ := H
              replace H : (if x5_1.length + t191.length < 140737488355328 then (log_Put.l1 k1 (x5_1 ++ t191) l1 (l1.length : Int) x20_1 (rd_L5 l1 x20_1) ((rd_L5 l1 x20_1).length : Int) 0) else (none)) = some r := H
              have A13 := Aside0.mk A130
              clear A130
              by_cases c14 : x5_1.length + t191.length < 140737488355328
              · rw [if_pos c14] at H
                have LMc14 := Aside0.mk c14
                clear c14
                obtain ⟨y194, hy194⟩ : ∃ y_ : List Int, y_ = (x5_1 ++ t191) := ⟨_, rfl⟩
                replace H : (log_Put.l1 k1 y194 l1 (l1.length : Int) x20_1 (rd_L5 l1 x20_1) ((rd_L5 l1 x20_1).length : Int) 0) = some r := by first | (rw [hy194]; with_reducible exact H) | (have H2_ := (Option.bind_some _ _).symm.trans H; rw [hy194]; with_reducible exact H2_) | (have H2_ := (Option.bind_some _ _).symm.trans H; with_reducible exact H2_) | with_reducible exact H | (rw [hy194]; exact H) | exact H
                have Ny194 := Aside0.mk hy194
                clear hy194
                have H' := Aside0.mk H
                clear H
                have p190 : 0 ≤ (x20_1 : Int) := of_decide_eq_true (by first | (with_reducible assumption) | assumption)
                have q190 : x20_1 < (l1.length : Int) := of_decide_eq_true (by first | (with_reducible assumption) | assumption)
                obtain ⟨ad190, A190_0, c190_0, e190, hx190_0, hl190_0, hi190_0⟩ := at_L5 HR1.out x20_1 p190 q190
                cases e190
                replace hx190_0 := (HB.out.cell (World.block_lt_of_cell? w _ hx190_0)).trans hx190_0
                have HR190_0 := Aside0.mk hi190_0
                have HC190_0 := Aside0.mk hl190_0
                clear hi190_0 hl190_0
                replace p190 := eq_true p190
                replace q190 := eq_true q190
                go_wp2_with (first | ((with_reducible refine gate_callee (f := 57) rfl ?_); refine goesL_ (some 28) rfl rfl Tryd.func57 (by kernel_rfl) rfl #[.slice none 0 0, .int .u64 (IntKind.u64.wrap (((rd_L5 l1 x20_1).length : Int)))] rfl (by (try simp only [List.map_toArray, List.map_cons, List.map_nil]); first | done | rfl | (simp only [List.length_drop, List.length_take]; rfl)) ?_; (refine (codec_PutUint.calls _ _ ([] : List Int) (IntKind.u64.wrap (((rd_L5 l1 x20_1).length : Int))) t191 _ ?side1 ?side2 A13.out).mono ?_); (case side1 => exact Kd.C_nil _ _); (case side2 => exact Nat.le_refl _); rintro e w15 ⟨v192, rfl, ho0, hb⟩; refine ⟨_, rfl, ?_⟩; have n0_ := Aside0.mk (Kd.R_elder' (by (with_reducible repeat (first | apply Kd.R_alloc | apply Kd.R_drewN | apply Kd.R_drew)); exact HO_5.out) (Kd.R_base ho0) hb); have n1_ := Aside0.mk (Kd.R_lower (Kd.R_new' ho0 (Kd.R_lt (by (with_reducible repeat (first | apply Kd.R_alloc | apply Kd.R_drewN | apply Kd.R_drew)); exact HO_5.out))) (below_size (by repeat (first | (with_reducible first | exact HB.out | apply below_alloc | apply pw_below_drewN | apply below_drew1) | exact HB.out)))); have n2_ := Aside0.mk (below_step (by repeat (first | (with_reducible first | exact HB.out | apply below_alloc | apply pw_below_drewN | apply below_drew1) | exact HB.out)) hb); clear HO_5; clear HB; have HO_5 := n0_; have HO193 := n1_; have HB := n2_; clear n0_ n1_ n2_; (try clear hb); (try clear hb2); (try clear hk); (try clear hi); (try clear ho0); obtain ⟨Ao17, co17, eo17⟩ := Kd.R_slice HO193.out; subst eo17) | ((with_reducible refine gate_builtin (b := .append) (xs := #[.tmp 24, .tmp 28]) rfl ?_); at_builtin; refine Kd.R_append_rows (Kd.int .u8) (w0 := w) w.heap.size rfl (.tmp 24) (.tmp 28) 22 5 (.int .u8 0) 1 rfl Tryd.underlying22 info5 rfl (by decide) (by omega) u5 x5_1 t191 _ _ _ (fun k_ => some k_ ≠ (.slice Ao17 t191.length co17 : Value).ownBlock) (fun _ => False) rfl rfl ?aO ?aR (fun _ _ h => h) (fun _ h => h.elim) ?aF ?aB ?aS ?aL ?_; (case aR => repeat (first | exact (Kd.R_reads' HO193.out).2.2 | (with_reducible refine Kd.C_alloc ?_ _) | (with_reducible refine Kd.C_drewN ?_ _) | (with_reducible refine Kd.C_drew ?_))); (case aB => exact (by repeat (first | (with_reducible first | exact HB.out | apply below_alloc | apply pw_below_drewN | apply below_drew1) | exact HB.out))); (case aF => exact (fun k_ hk => Kd.fresh' (Kd.R_lt (by (with_reducible repeat (first | apply Kd.R_alloc | apply Kd.R_drewN | apply Kd.R_drew)); exact HO193.out)) k_ hk)); (case aO => exact (by (with_reducible repeat (first | apply Kd.R_alloc | apply Kd.R_drewN | apply Kd.R_drew)); exact Kd.R_mono HO_5.out (fun _ hk => hk.2))); (case aS => exact (below_size (by repeat (first | (with_reducible first | exact HB.out | apply below_alloc | apply pw_below_drewN | apply below_drew1) | exact HB.out)))); (case aL => have := LMc14.out; omega); intro v195 w16 ho hb hg hat; rw [← Ny194.out] at ho; have n0_ := Aside0.mk (Kd.R_after (ok := (fun _ => True)) (by (with_reducible repeat (first | apply Kd.R_alloc | apply Kd.R_drewN | apply Kd.R_drew)); exact HO193.out) hg hat); have n1_ := Aside0.mk (hb); have n2_ := Aside0.mk (ho); clear HO193; clear HB; clear HO_5; have HO193 := n0_; have HB := n1_; have HO196 := n2_; clear n0_ n1_ n2_; clear ho hb hg hat))
                go_loopg [5, 32] k1 (fun kq v5 v32 w' => ∃ (x5_2 : List Int) (x32_2 : Int), v32 = .int .i64 x32_2 ∧ Aside0 (log_Put.l1 kq x5_2 l1 (l1.length : Int) x20_1 (rd_L5 l1 x20_1) ((rd_L5 l1 x20_1).length : Int) x32_2 = some r) ∧ Aside0 (kq ≤ k1) ∧ Aside0 (Kd.R (Kd.int .u8) 5 w' w.heap.size (fun _ => True) v5 x5_2) ∧ Aside0 (Below w.heap.size w w'))
                case atStart => exact ⟨(y194), (0), (by first | rfl | (simp; done) | (simp [*]; done)), H', ⟨Nat.le_refl _⟩, ⟨by (with_reducible repeat (first | apply Kd.R_alloc | apply Kd.R_drewN | apply Kd.R_drew)); exact Kd.R_mono HO196.out (fun _ hk => trivial)⟩, ⟨by repeat (first | (with_reducible first | exact HB.out | apply below_alloc | apply pw_below_drewN | apply below_drew1) | exact HB.out)⟩⟩
                case round =>
                  clear H'
                  try clear c1
                  try clear p1
                  try clear q1
                  try clear hx1
                  try clear c2
                  try clear p2
                  try clear c5
                  try clear c10
                  try clear c10b0
                  try clear c11
                  try clear c11b0
                  try clear c12
                  try clear c12b0
                  try clear c14
                  try clear hx190_0
                  try clear p190
                  try clear p2
                  try clear q190
                  obtain ⟨x5_2, x32_2, rfl, HA, HK2, HO_5, HB⟩ := hrel
                  cases gk with
                  | zero => exact absurd HA.out (by simp [log_Put.l1])
                  | succ k2 =>
                    have H := HA.out
                    clear HA
                    simp only [log_Put.l1] at H
                    by_cases c18 : x32_2 < ((rd_L5 l1 x20_1).length : Int)
                    · rw [if_pos c18] at H
                      have c18b0 : decide (x32_2 < ((rd_L5 l1 x20_1).length : Int)) = true := decide_eq_true c18
                      clear c18
                      by_cases c19 : 0 ≤ x32_2
                      · rw [if_pos c19] at H
                        have c19b0 : decide (0 ≤ x32_2) = true := decide_eq_true c19
                        clear c19
                        by_cases c20 : x32_2 < ((rd_L5 l1 x20_1).length : Int)
                        · rw [if_pos c20] at H
                          have c20b0 : decide (x32_2 < ((rd_L5 l1 x20_1).length : Int)) = true := decide_eq_true c20
                          clear c20
                          obtain ⟨bq21, hbq21⟩ : ∃ b_ : Bool, b_ = ((rd_T67 (rd_L5 l1 x20_1) x32_2).f1) := ⟨_, rfl⟩
                          replace H : (if bq21 = true then (if x5_2.length < 140737488355328 then ((some (x5_2 ++ [1] : List Int)).bind fun y199 => ((codec_PutText.f ([] : List Int) ((rd_T67 (rd_L5 l1 x20_1) x32_2).f0)).bind fun t202 => (if y199.length + t202.length < 140737488355328 then (log_Put.l1 k2 (y199 ++ t202) l1 (l1.length : Int) x20_1 (rd_L5 l1 x20_1) ((rd_L5 l1 x20_1).length : Int) (wrap64 (x32_2 + 1))) else (none)))) else (none)) else (if x5_2.length < 140737488355328 then ((some (x5_2 ++ [0] : List Int)).bind fun y208 => ((codec_PutText.f ([] : List Int) ((rd_T67 (rd_L5 l1 x20_1) x32_2).f0)).bind fun t211 => (if y208.length + t211.length < 140737488355328 then ((some (y208 ++ t211 : List Int)).bind fun y214 => ((codec_PutText.f ([] : List Int) ((rd_T67 (rd_L5 l1 x20_1) x32_2).f2)).bind fun t217 => (if y214.length + t217.length < 140737488355328 then (log_Put.l1 k2 (y214 ++ t217) l1 (l1.length : Int) x20_1 (rd_L5 l1 x20_1) ((rd_L5 l1 x20_1).length : Int) (wrap64 (x32_2 + 1))) else (none)))) else (none)))) else (none))) = some r := by rw [← hbq21] at H; exact H
                          have Nbq21 := Aside0.mk hbq21
                          clear hbq21
                          by_cases c22 : bq21 = true
                          · subst c22
                            have H1 : (if x5_2.length < 140737488355328 then ((some (x5_2 ++ [1] : List Int)).bind fun y199 => ((codec_PutText.f ([] : List Int) ((rd_T67 (rd_L5 l1 x20_1) x32_2).f0)).bind fun t202 => (if y199.length + t202.length < 140737488355328 then (log_Put.l1 k2 (y199 ++ t202) l1 (l1.length : Int) x20_1 (rd_L5 l1 x20_1) ((rd_L5 l1 x20_1).length : Int) (wrap64 (x32_2 + 1))) else (none)))) else (none)) = some r := by rw [if_pos rfl] at H; exact H
                            clear H
                            have H := H1
                            clear H1
                            by_cases c23 : x5_2.length < 140737488355328
                            · rw [if_pos c23] at H
                              have LMc23 := Aside0.mk c23
                              clear c23
                              obtain ⟨y199, hy199⟩ : ∃ y_ : List Int, y_ = (x5_2 ++ [1]) := ⟨_, rfl⟩
                              replace H : ((codec_PutText.f ([] : List Int) ((rd_T67 (rd_L5 l1 x20_1) x32_2).f0)).bind fun t202 => (if y199.length + t202.length < 140737488355328 then (log_Put.l1 k2 (y199 ++ t202) l1 (l1.length : Int) x20_1 (rd_L5 l1 x20_1) ((rd_L5 l1 x20_1).length : Int) (wrap64 (x32_2 + 1))) else (none))) = some r := by first | (rw [hy199]; with_reducible exact H) | (have H2_ := (Option.bind_some _ _).symm.trans H; rw [hy199]; with_reducible exact H2_) | (have H2_ := (Option.bind_some _ _).symm.trans H; with_reducible exact H2_) | with_reducible exact H | (rw [hy199]; exact H) | exact H
                              have Ny199 := Aside0.mk hy199
                              clear hy199
                              replace H := Option.bind_eq_some_iff.mp H
                              obtain ⟨t202, A240, H⟩ := H
                              replace H : (if y199.length + t202.length < 140737488355328 then (log_Put.l1 k2 (y199 ++ t202) l1 (l1.length : Int) x20_1 (rd_L5 l1 x20_1) ((rd_L5 l1 x20_1).length : Int) (wrap64 (x32_2 + 1))) else (none)) = some r := H
                              have A24 := Aside0.mk A240
                              clear A240
                              by_cases c25 : y199.length + t202.length < 140737488355328
                              · rw [if_pos c25] at H
                                have LMc25 := Aside0.mk c25
                                clear c25
                                obtain ⟨y205, hy205⟩ : ∃ y_ : List Int, y_ = (y199 ++ t202) := ⟨_, rfl⟩
                                replace H : (log_Put.l1 k2 y205 l1 (l1.length : Int) x20_1 (rd_L5 l1 x20_1) ((rd_L5 l1 x20_1).length : Int) (wrap64 (x32_2 + 1))) = some r := by first | (rw [hy205]; with_reducible exact H) | (have H2_ := (Option.bind_some _ _).symm.trans H; rw [hy205]; with_reducible exact H2_) | (have H2_ := (Option.bind_some _ _).symm.trans H; with_reducible exact H2_) | with_reducible exact H | (rw [hy205]; exact H) | exact H
                                have Ny205 := Aside0.mk hy205
                                clear hy205
                                have H' := Aside0.mk H
                                clear H
                                have p197 : 0 ≤ (x32_2 : Int) := of_decide_eq_true (by first | (with_reducible assumption) | assumption)
                                have q197 : x32_2 < ((rd_L5 l1 x20_1).length : Int) := of_decide_eq_true (by first | (with_reducible assumption) | assumption)
                                obtain ⟨ad197, e197, hx197_0, hx197_1, hx197_2⟩ := at_T67 HR190_0.out x32_2 p197 q197
                                (try rw [← Nbq21.out] at hx197_1)
                                cases e197
                                replace hx197_0 := (HB.out.cell (World.block_lt_of_cell? w _ hx197_0)).trans hx197_0
                                replace hx197_1 := (HB.out.cell (World.block_lt_of_cell? w _ hx197_1)).trans hx197_1
                                replace hx197_2 := (HB.out.cell (World.block_lt_of_cell? w _ hx197_2)).trans hx197_2
                                replace p197 := eq_true p197
                                replace q197 := eq_true q197
                                try go_wp2_with (first | ((with_reducible refine gate_dst (N := 9) rfl ?_); refine box_event ?hg (N := 9) ?hd (cs := #[.string (⟨#[]⟩ : ByteArray), .bool false, .string (⟨#[]⟩ : ByteArray)]) (t := 67) ?hr ?_; (case hd => rfl); (case hg => rfl); (case hr => first | (go_simp; done) | (go_simp; rfl)); intro gb198 hg w26 hbox hb; have n0_ := Aside0.mk (Kd.R_below (by (with_reducible repeat (first | apply Kd.R_alloc | apply Kd.R_drewN | apply Kd.R_drew)); exact HO_5.out) hb); have n1_ := Aside0.mk (below_step (by repeat (first | (with_reducible first | exact HB.out | apply below_alloc | apply pw_below_drewN | apply below_drew1) | exact HB.out)) hb); have n2_ := Aside0.mk (hbox); have n3_ := Aside0.mk ((by rw [hg]; exact (below_size (by repeat (first | (with_reducible first | exact HB.out | apply below_alloc | apply pw_below_drewN | apply below_drew1) | exact HB.out))) : w.heap.size ≤ gb198)); have n4_ := Aside0.mk ((by rw [hg]; exact (below_size (by repeat (first | (with_reducible first | exact HB.out | apply below_alloc | apply pw_below_drewN | apply below_drew1) | exact HB.out))) : w.heap.size ≤ gb198)); clear HO_5; clear HB; have HO_5 := n0_; have HB := n1_; have BK198 := n2_; have GW198 := n3_; have GE198 := n4_; clear n0_ n1_ n2_ n3_ n4_; clear hb hbox hg; have hcz27_0 : w26.cell? ⟨gb198, 0, none⟩ = some (.string (⟨#[]⟩ : ByteArray)) := (blk_cell BK198.out 0).trans rfl; have hcz27_1 : w26.cell? ⟨gb198, 1, none⟩ = some (.bool false) := (blk_cell BK198.out 1).trans rfl; have hcz27_2 : w26.cell? ⟨gb198, 2, none⟩ = some (.string (⟨#[]⟩ : ByteArray)) := (blk_cell BK198.out 2).trans rfl; have hfz27_0 := blk_frozen BK198.out 0; have hfz27_1 := blk_frozen BK198.out 1; have hfz27_2 := blk_frozen BK198.out 2))
                                have n0_ : Aside0 (Kd.R (Kd.int .u8) 5 (((w26.setCell ⟨gb198, 0, none⟩ (.string ((rd_T67 (rd_L5 l1 x20_1) x32_2).f0))).setCell ⟨gb198, 1, none⟩ (.bool true)).setCell ⟨gb198, 2, none⟩ (.string ((rd_T67 (rd_L5 l1 x20_1) x32_2).f2))) w.heap.size (fun _ => True) u5 x5_2) := ⟨by (with_reducible repeat (first | apply Kd.R_alloc | apply Kd.R_drewN | apply Kd.R_drew)); exact Kd.R_mono (Kd.R_far (p := ⟨gb198, 2, none⟩) (Kd.R_far (p := ⟨gb198, 1, none⟩) (Kd.R_far (p := ⟨gb198, 0, none⟩) (Kd.R_types HO_5.out BK198.out (by decide)) (fun _ hk => hk.2) (.string ((rd_T67 (rd_L5 l1 x20_1) x32_2).f0))) (fun _ hk => hk.2) (.bool true)) (fun _ hk => hk.2) (.string ((rd_T67 (rd_L5 l1 x20_1) x32_2).f2))) (fun _ hk => trivial)⟩
                                have n1_ : Aside0 ((((w26.setCell ⟨gb198, 0, none⟩ (.string ((rd_T67 (rd_L5 l1 x20_1) x32_2).f0))).setCell ⟨gb198, 1, none⟩ (.bool true)).setCell ⟨gb198, 2, none⟩ (.string ((rd_T67 (rd_L5 l1 x20_1) x32_2).f2))).heap[gb198]? = some (.cells #[.string ((rd_T67 (rd_L5 l1 x20_1) x32_2).f0), .bool true, .string ((rd_T67 (rd_L5 l1 x20_1) x32_2).f2)] 67 (0, 0))) := ⟨by (with_reducible repeat (first | refine blk_drewN ?_ _ | refine blk_drew ?_ | refine blk_alloc ?_ _)); refine blk_put (cs := #[.string ((rd_T67 (rd_L5 l1 x20_1) x32_2).f0), .bool true, .string (⟨#[]⟩ : ByteArray)]) ?_ 2 _ rfl; (with_reducible repeat (first | refine blk_drewN ?_ _ | refine blk_drew ?_ | refine blk_alloc ?_ _)); refine blk_put (cs := #[.string ((rd_T67 (rd_L5 l1 x20_1) x32_2).f0), .bool false, .string (⟨#[]⟩ : ByteArray)]) ?_ 1 _ rfl; (with_reducible repeat (first | refine blk_drewN ?_ _ | refine blk_drew ?_ | refine blk_alloc ?_ _)); refine blk_put (cs := #[.string (⟨#[]⟩ : ByteArray), .bool false, .string (⟨#[]⟩ : ByteArray)]) ?_ 0 _ rfl; (with_reducible repeat (first | refine blk_drewN ?_ _ | refine blk_drew ?_ | refine blk_alloc ?_ _)); exact BK198.out⟩
                                have n2_ : Aside0 (Below w.heap.size w (((w26.setCell ⟨gb198, 0, none⟩ (.string ((rd_T67 (rd_L5 l1 x20_1) x32_2).f0))).setCell ⟨gb198, 1, none⟩ (.bool true)).setCell ⟨gb198, 2, none⟩ (.string ((rd_T67 (rd_L5 l1 x20_1) x32_2).f2)))) := ⟨by repeat (first | (with_reducible first | exact HB.out | apply below_alloc | apply pw_below_drewN | apply below_drew1 | refine below_set ?_ GE198.out) | exact HB.out)⟩
                                (try clear HO_5)
                                (try clear BK198)
                                (try clear HB)
                                generalize (((w26.setCell ⟨gb198, 0, none⟩ (.string ((rd_T67 (rd_L5 l1 x20_1) x32_2).f0))).setCell ⟨gb198, 1, none⟩ (.bool true)).setCell ⟨gb198, 2, none⟩ (.string ((rd_T67 (rd_L5 l1 x20_1) x32_2).f2))) = w28 at n0_ n1_ n2_ ⊢
                                have HO_5 := n0_
                                have BK198 := n1_
                                have HB := n2_
                                clear n0_ n1_ n2_
                                have n0_ := Aside0.mk (Kd.R_drew HO_5.out)
                                have n1_ := Aside0.mk (blk_drew BK198.out)
                                have n2_ := Aside0.mk (below_drew1 HB.out)
                                clear HO_5
                                clear BK198
                                clear HB
                                have HO_5 := n0_
                                have BK198 := n1_
                                have HB := n2_
                                clear n0_ n1_ n2_
                                refine start_ (n := 8) (S := fun w' => w'.cell? ⟨gb198, 0, none⟩ = some (.string ((rd_T67 (rd_L5 l1 x20_1) x32_2).f0)) ∧ w'.cell? ⟨gb198, 1, none⟩ = some (.bool true) ∧ w'.cell? ⟨gb198, 2, none⟩ = some (.string ((rd_T67 (rd_L5 l1 x20_1) x32_2).f2))) (ds := []) #[false, false, false, false, false, false, false, false] (by kernel_rfl) rfl rfl ⟨(blk_cell BK198.out 0).trans rfl, (blk_cell BK198.out 1).trans rfl, (blk_cell BK198.out 2).trans rfl⟩ (fun hHeld => ?_); refine with_tabW log_Put.tab11 log_Put.bits11 (fun HT_ HW_ => ?_)
                                generalize w28.drew = w29 at HO_5 BK198 HB hHeld ⊢
                                refine pure_ (i := 0) (N := some 38) (v := ?_) (a' := ?_) #[true, false, false, false, false, false, false, false] rfl rfl (any_of HT_.out (by kernel_rfl)) (fun _ _ _ h => h) (Or.inl ⟨by rfl, ?_⟩) ?_ ?_
                                rotate_left
                                · intro w'
                                  go_simp
                                  with_reducible rfl
                                rotate_left
                                · simp only [Act.put, List.setIfInBounds_toArray, List.set_cons_zero, List.set_cons_succ, i64_w, i32_w]
                                  rfl
                                refine pure_ (i := 3) (N := some 41) (v := ?_) (a' := ?_) #[true, false, false, true, false, false, false, false] rfl rfl (any_of HT_.out (by kernel_rfl)) (fun _ _ _ h => h) (Or.inl ⟨by rfl, ?_⟩) ?_ ?_
                                rotate_left
                                · intro w'
                                  go_simp
                                  with_reducible rfl
                                rotate_left
                                · simp only [Act.put, List.setIfInBounds_toArray, List.set_cons_zero, List.set_cons_succ, i64_w, i32_w]
                                  rfl
                                refine take_ (i := 4) (N := some 42) (v := ?_) (a' := ?_) #[true, false, false, true, true, false, false, false] rfl rfl (take_ofW HT_.out HW_.out (by kernel_rfl)) (fun _ _ _ h => h) (Or.inl ⟨by rfl, ?_⟩) hHeld ?_ ?_
                                rotate_left
                                · rintro w' ⟨s0, s1, s2⟩
                                  go_simp
                                  with_reducible rfl
                                rotate_left
                                · simp only [Act.put, List.setIfInBounds_toArray, List.set_cons_zero, List.set_cons_succ, i64_w, i32_w]
                                  rfl
                                refine one_ (i := 1) (N := some 39) #[true, true, false, true, true, false, false, false] rfl rfl (one_of HT_.out (by kernel_rfl)) (by decide) (fun K hK => ?_)
                                refine value_ (w1 := ?_) (v := ?_) (by rfl) rfl ?_ ?_
                                rotate_left 2
                                · go_simp
                                  constructor
                                  · rfl
                                  · rfl
                                refine hK.out _ _ ⟨(blk_cell (blk_alloc BK198.out _) 0).trans rfl, (blk_cell (blk_alloc BK198.out _) 1).trans rfl, (blk_cell (blk_alloc BK198.out _) 2).trans rfl⟩ (fun hHeld => ?_)
                                clear hK K
                                refine norm_ (a' := ?_) ?_ ?_
                                rotate_left
                                · show Act.put _ (some 39) _ = _
                                  simp only [Act.put, List.setIfInBounds_toArray, List.set_cons_zero, List.set_cons_succ, i64_w, i32_w]
                                  rfl
                                refine one_ (i := 2) (N := some 40) #[true, true, true, true, true, false, false, false] rfl rfl (one_of HT_.out (by kernel_rfl)) (by decide) (fun K hK => ?_)
                                refine Kd.R_append_step (Kd.int .u8) (w0 := w) w.heap.size (by rfl) (.tmp 38) (.tmp 39) 22 5 (.int .u8 0) 1 rfl Tryd.underlying22 info5 rfl (by decide) (by omega) u5 x5_2 1 [.int .u8 1] (fun _ => True) (fun _ => False) rfl rfl ?aP (fun _ hk => hk.elim) ?aF ?aO ?aB ?aS ?aL ?_
                                (case aP => exact rfl)
                                (case aB => exact (by repeat (first | (with_reducible first | exact HB.out | apply below_alloc | apply pw_below_drewN | apply below_drew1 | refine below_set ?_ GE198.out) | exact HB.out)))
                                (case aF => exact (fun _ _ => trivial))
                                (case aO => exact (by (with_reducible repeat (first | apply Kd.R_alloc | apply Kd.R_drewN | apply Kd.R_drew)); exact HO_5.out))
                                (case aS => exact (below_size (by repeat (first | (with_reducible first | exact HB.out | apply below_alloc | apply pw_below_drewN | apply below_drew1 | refine below_set ?_ GE198.out) | exact HB.out))))
                                (case aL => have := LMc23.out; omega)
                                intro v200 w30 ho hb hg hat
                                rw [← Ny199.out] at ho
                                have n0_ := Aside0.mk (blk_grown (g := gb198) (o := .cells #[.string ((rd_T67 (rd_L5 l1 x20_1) x32_2).f0), .bool true, .string ((rd_T67 (rd_L5 l1 x20_1) x32_2).f2)] 67 (0, 0)) (by (with_reducible repeat (first | refine blk_drewN ?_ _ | refine blk_drew ?_ | refine blk_alloc ?_ _)); exact BK198.out) hg (Kd.R_ne HO_5.out BK198.out (by decide)))
                                have n1_ := Aside0.mk (hb)
                                have n2_ := Aside0.mk (ho)
                                clear BK198
                                clear HB
                                clear HO_5
                                have BK198 := n0_
                                have HB := n1_
                                have HO201 := n2_
                                clear n0_ n1_ n2_
                                clear ho hb hg hat
                                refine hK.out _ _ ⟨(blk_cell BK198.out 0).trans rfl, (blk_cell BK198.out 1).trans rfl, (blk_cell BK198.out 2).trans rfl⟩ (fun hHeld => ?_)
                                clear hK K
                                refine norm_ (a' := ?_) ?_ ?_
                                rotate_left
                                · show Act.put _ (some 40) _ = _
                                  simp only [Act.put, List.setIfInBounds_toArray, List.set_cons_zero, List.set_cons_succ, i64_w, i32_w]
                                  rfl
                                refine one_ (i := 5) (N := some 43) #[true, true, true, true, true, true, false, false] rfl rfl (one_of HT_.out (by kernel_rfl)) (by decide) (fun K hK => ?_)
                                refine goes_ Tryd.func58 (by kernel_rfl) rfl #[.slice none 0 0, .string ((rd_T67 (rd_L5 l1 x20_1) x32_2).f0)] (by rfl) rfl rfl (by (try simp only [List.map_toArray, List.map_cons, List.map_nil]); first | done | rfl | (simp only [List.length_drop, List.length_take]; rfl)) ?_
                                refine (codec_PutText.calls _ _ ([] : List Int) ((rd_T67 (rd_L5 l1 x20_1) x32_2).f0) t202 _ ?side1 ?side2 A24.out).mono ?_
                                (case side1 => exact Kd.C_nil _ _)
                                (case side2 => exact Nat.le_refl _)
                                rintro e w31 ⟨v203, rfl, ho0, hb⟩
                                refine ⟨_, rfl, ?_⟩
                                have n0_ := Aside0.mk (Kd.R_elder' (by (with_reducible repeat (first | apply Kd.R_alloc | apply Kd.R_drewN | apply Kd.R_drew)); exact HO201.out) (Kd.R_base ho0) hb)
                                have n1_ := Aside0.mk (Kd.R_lower (Kd.R_new' ho0 (Kd.R_lt (by (with_reducible repeat (first | apply Kd.R_alloc | apply Kd.R_drewN | apply Kd.R_drew)); exact HO201.out))) (below_size (by repeat (first | (with_reducible first | exact HB.out | apply below_alloc | apply pw_below_drewN | apply below_drew1 | refine below_set ?_ GE198.out) | exact HB.out))))
                                have n2_ := Aside0.mk (blk_below (g := gb198) (o := .cells #[.string ((rd_T67 (rd_L5 l1 x20_1) x32_2).f0), .bool true, .string ((rd_T67 (rd_L5 l1 x20_1) x32_2).f2)] 67 (0, 0)) (by (with_reducible repeat (first | refine blk_drewN ?_ _ | refine blk_drew ?_ | refine blk_alloc ?_ _)); exact BK198.out) hb)
                                have n3_ := Aside0.mk (below_step (by repeat (first | (with_reducible first | exact HB.out | apply below_alloc | apply pw_below_drewN | apply below_drew1 | refine below_set ?_ GE198.out) | exact HB.out)) hb)
                                clear HO201
                                clear BK198
                                clear HB
                                have HO201 := n0_
                                have HO204 := n1_
                                have BK198 := n2_
                                have HB := n3_
                                clear n0_ n1_ n2_ n3_
                                (try clear hb)
                                (try clear hb2)
                                (try clear hk)
                                (try clear hi)
                                (try clear ho0)
                                obtain ⟨Ao33, co33, eo33⟩ := Kd.R_slice HO204.out
                                (first | subst eo33 | (injection eo33 with f1_ f2_ f3_; have f4_ := f1_.symm; have f5_ := f3_.symm; clear f1_ f2_ f3_; subst f4_; subst f5_))
                                refine hK.out _ _ ⟨(blk_cell BK198.out 0).trans rfl, (blk_cell BK198.out 1).trans rfl, (blk_cell BK198.out 2).trans rfl⟩ (fun hHeld => ?_)
                                clear hK K
                                refine norm_ (a' := ?_) ?_ ?_
                                rotate_left
                                · show Act.put _ (some 43) _ = _
                                  simp only [Act.put, List.setIfInBounds_toArray, List.set_cons_zero, List.set_cons_succ, i64_w, i32_w]
                                  rfl
                                refine one_ (i := 6) (N := some 44) #[true, true, true, true, true, true, true, false] rfl rfl (one_of HT_.out (by kernel_rfl)) (by decide) (fun K hK => ?_)
                                refine Kd.R_append_rows_step (Kd.int .u8) (w0 := w) w.heap.size (by rfl) (.tmp 40) (.tmp 43) 22 5 (.int .u8 0) 1 rfl Tryd.underlying22 info5 rfl (by decide) (by omega) v200 y199 t202 _ _ _ (fun k_ => some k_ ≠ (.slice Ao33 t202.length co33 : Value).ownBlock) (fun _ => False) rfl rfl ?aO ?aR (fun _ _ h => h) (fun _ h => h.elim) ?aF ?aB ?aS ?aL ?_
                                (case aR => repeat (first | exact (Kd.R_reads' HO204.out).2.2 | (with_reducible refine Kd.C_alloc ?_ _) | (with_reducible refine Kd.C_drewN ?_ _) | (with_reducible refine Kd.C_drew ?_)))
                                (case aB => exact (by repeat (first | (with_reducible first | exact HB.out | apply below_alloc | apply pw_below_drewN | apply below_drew1 | refine below_set ?_ GE198.out) | exact HB.out)))
                                (case aF => exact (fun k_ hk => Kd.fresh' (Kd.R_lt (by (with_reducible repeat (first | apply Kd.R_alloc | apply Kd.R_drewN | apply Kd.R_drew)); exact HO204.out)) k_ hk))
                                (case aO => exact (by (with_reducible repeat (first | apply Kd.R_alloc | apply Kd.R_drewN | apply Kd.R_drew)); exact Kd.R_mono HO201.out (fun _ hk => hk.2)))
                                (case aS => exact (below_size (by repeat (first | (with_reducible first | exact HB.out | apply below_alloc | apply pw_below_drewN | apply below_drew1 | refine below_set ?_ GE198.out) | exact HB.out))))
                                (case aL => have := LMc25.out; omega)
                                intro v206 w32 ho hb hg hat
                                rw [← Ny205.out] at ho
                                have n0_ := Aside0.mk (blk_grown (g := gb198) (o := .cells #[.string ((rd_T67 (rd_L5 l1 x20_1) x32_2).f0), .bool true, .string ((rd_T67 (rd_L5 l1 x20_1) x32_2).f2)] 67 (0, 0)) (by (with_reducible repeat (first | refine blk_drewN ?_ _ | refine blk_drew ?_ | refine blk_alloc ?_ _)); exact BK198.out) hg (Kd.R_ne HO201.out BK198.out (by decide)))
                                have n1_ := Aside0.mk (Kd.R_after (ok := (fun _ => True)) (by (with_reducible repeat (first | apply Kd.R_alloc | apply Kd.R_drewN | apply Kd.R_drew)); exact HO204.out) hg hat)
                                have n2_ := Aside0.mk (hb)
                                have n3_ := Aside0.mk (ho)
                                clear BK198
                                clear HO204
                                clear HB
                                clear HO201
                                have BK198 := n0_
                                have HO204 := n1_
                                have HB := n2_
                                have HO207 := n3_
                                clear n0_ n1_ n2_ n3_
                                clear ho hb hg hat
                                refine hK.out _ _ ⟨(blk_cell BK198.out 0).trans rfl, (blk_cell BK198.out 1).trans rfl, (blk_cell BK198.out 2).trans rfl⟩ (fun hHeld => ?_)
                                clear hK K
                                refine norm_ (a' := ?_) ?_ ?_
                                rotate_left
                                · show Act.put _ (some 44) _ = _
                                  simp only [Act.put, List.setIfInBounds_toArray, List.set_cons_zero, List.set_cons_succ, i64_w, i32_w]
                                  rfl
                                refine pure_ (i := 7) (N := some 5) (v := ?_) (a' := ?_) #[true, true, true, true, true, true, true, true] rfl rfl (any_of HT_.out (by kernel_rfl)) (fun _ _ _ h => h) (Or.inl ⟨by rfl, ?_⟩) ?_ ?_
                                rotate_left
                                · intro w'
                                  go_simp
                                  with_reducible rfl
                                rotate_left
                                · simp only [Act.put, List.setIfInBounds_toArray, List.set_cons_zero, List.set_cons_succ, i64_w, i32_w]
                                  rfl
                                refine done_ (done_of HT_.out (by kernel_rfl)) ?_
                                try go_wp2
                                go_roundg k2
                                case measure => have := HK1.out; have := HK2.out; omega
                                case rel => exact ⟨(y205), (wrap64 (x32_2 + 1)), (by first | rfl | (simp; done) | (simp [*]; done)), H', ⟨by have := HK1.out; have := HK2.out; omega⟩, ⟨by (with_reducible repeat (first | apply Kd.R_alloc | apply Kd.R_drewN | apply Kd.R_drew)); exact Kd.R_mono HO207.out (fun _ hk => trivial)⟩, ⟨by repeat (first | (with_reducible first | exact HB.out | apply below_alloc | apply pw_below_drewN | apply below_drew1 | refine below_set ?_ GE198.out) | exact HB.out)⟩⟩
                              · rw [if_neg c25] at H
                                exact absurd H (by simp)
                            · rw [if_neg c23] at H
                              exact absurd H (by simp)
                          · replace c22 := Bool.eq_false_iff.mpr c22
                            subst c22
                            have H1 : (if x5_2.length < 140737488355328 then ((some (x5_2 ++ [0] : List Int)).bind fun y208 => ((codec_PutText.f ([] : List Int) ((rd_T67 (rd_L5 l1 x20_1) x32_2).f0)).bind fun t211 => (if y208.length + t211.length < 140737488355328 then ((some (y208 ++ t211 : List Int)).bind fun y214 => ((codec_PutText.f ([] : List Int) ((rd_T67 (rd_L5 l1 x20_1) x32_2).f2)).bind fun t217 => (if y214.length + t217.length < 140737488355328 then (log_Put.l1 k2 (y214 ++ t217) l1 (l1.length : Int) x20_1 (rd_L5 l1 x20_1) ((rd_L5 l1 x20_1).length : Int) (wrap64 (x32_2 + 1))) else (none)))) else (none)))) else (none)) = some r := by rw [if_neg (show ¬ (false = true) by decide)] at H; exact H
                            clear H
                            have H := H1
                            clear H1
                            by_cases c34 : x5_2.length < 140737488355328
                            · rw [if_pos c34] at H
                              have LMc34 := Aside0.mk c34
                              clear c34
                              obtain ⟨y208, hy208⟩ : ∃ y_ : List Int, y_ = (x5_2 ++ [0]) := ⟨_, rfl⟩
                              replace H : ((codec_PutText.f ([] : List Int) ((rd_T67 (rd_L5 l1 x20_1) x32_2).f0)).bind fun t211 => (if y208.length + t211.length < 140737488355328 then ((some (y208 ++ t211 : List Int)).bind fun y214 => ((codec_PutText.f ([] : List Int) ((rd_T67 (rd_L5 l1 x20_1) x32_2).f2)).bind fun t217 => (if y214.length + t217.length < 140737488355328 then (log_Put.l1 k2 (y214 ++ t217) l1 (l1.length : Int) x20_1 (rd_L5 l1 x20_1) ((rd_L5 l1 x20_1).length : Int) (wrap64 (x32_2 + 1))) else (none)))) else (none))) = some r := by first | (rw [hy208]; with_reducible exact H) | (have H2_ := (Option.bind_some _ _).symm.trans H; rw [hy208]; with_reducible exact H2_) | (have H2_ := (Option.bind_some _ _).symm.trans H; with_reducible exact H2_) | with_reducible exact H | (rw [hy208]; exact H) | exact H
                              have Ny208 := Aside0.mk hy208
                              clear hy208
                              replace H := Option.bind_eq_some_iff.mp H
                              obtain ⟨t211, A350, H⟩ := H
                              replace H : (if y208.length + t211.length < 140737488355328 then ((some (y208 ++ t211 : List Int)).bind fun y214 => ((codec_PutText.f ([] : List Int) ((rd_T67 (rd_L5 l1 x20_1) x32_2).f2)).bind fun t217 => (if y214.length + t217.length < 140737488355328 then (log_Put.l1 k2 (y214 ++ t217) l1 (l1.length : Int) x20_1 (rd_L5 l1 x20_1) ((rd_L5 l1 x20_1).length : Int) (wrap64 (x32_2 + 1))) else (none)))) else (none)) = some r := H
                              have A35 := Aside0.mk A350
                              clear A350
                              by_cases c36 : y208.length + t211.length < 140737488355328
                              · rw [if_pos c36] at H
                                have LMc36 := Aside0.mk c36
                                clear c36
                                obtain ⟨y214, hy214⟩ : ∃ y_ : List Int, y_ = (y208 ++ t211) := ⟨_, rfl⟩
                                replace H : ((codec_PutText.f ([] : List Int) ((rd_T67 (rd_L5 l1 x20_1) x32_2).f2)).bind fun t217 => (if y214.length + t217.length < 140737488355328 then (log_Put.l1 k2 (y214 ++ t217) l1 (l1.length : Int) x20_1 (rd_L5 l1 x20_1) ((rd_L5 l1 x20_1).length : Int) (wrap64 (x32_2 + 1))) else (none))) = some r := by first | (rw [hy214]; with_reducible exact H) | (have H2_ := (Option.bind_some _ _).symm.trans H; rw [hy214]; with_reducible exact H2_) | (have H2_ := (Option.bind_some _ _).symm.trans H; with_reducible exact H2_) | with_reducible exact H | (rw [hy214]; exact H) | exact H
                                have Ny214 := Aside0.mk hy214
                                clear hy214
                                replace H := Option.bind_eq_some_iff.mp H
                                obtain ⟨t217, A370, H⟩ := H
                                replace H : (if y214.length + t217.length < 140737488355328 then (log_Put.l1 k2 (y214 ++ t217) l1 (l1.length : Int) x20_1 (rd_L5 l1 x20_1) ((rd_L5 l1 x20_1).length : Int) (wrap64 (x32_2 + 1))) else (none)) = some r := H
                                have A37 := Aside0.mk A370
                                clear A370
                                by_cases c38 : y214.length + t217.length < 140737488355328
                                · rw [if_pos c38] at H
                                  have LMc38 := Aside0.mk c38
                                  clear c38
                                  obtain ⟨y220, hy220⟩ : ∃ y_ : List Int, y_ = (y214 ++ t217) := ⟨_, rfl⟩
                                  replace H : (log_Put.l1 k2 y220 l1 (l1.length : Int) x20_1 (rd_L5 l1 x20_1) ((rd_L5 l1 x20_1).length : Int) (wrap64 (x32_2 + 1))) = some r := by first | (rw [hy220]; with_reducible exact H) | (have H2_ := (Option.bind_some _ _).symm.trans H; rw [hy220]; with_reducible exact H2_) | (have H2_ := (Option.bind_some _ _).symm.trans H; with_reducible exact H2_) | with_reducible exact H | (rw [hy220]; exact H) | exact H
                                  have Ny220 := Aside0.mk hy220
                                  clear hy220
                                  have H' := Aside0.mk H
                                  clear H
                                  have p197 : 0 ≤ (x32_2 : Int) := of_decide_eq_true (by first | (with_reducible assumption) | assumption)
                                  have q197 : x32_2 < ((rd_L5 l1 x20_1).length : Int) := of_decide_eq_true (by first | (with_reducible assumption) | assumption)
                                  obtain ⟨ad197, e197, hx197_0, hx197_1, hx197_2⟩ := at_T67 HR190_0.out x32_2 p197 q197
                                  (try rw [← Nbq21.out] at hx197_1)
                                  cases e197
                                  replace hx197_0 := (HB.out.cell (World.block_lt_of_cell? w _ hx197_0)).trans hx197_0
                                  replace hx197_1 := (HB.out.cell (World.block_lt_of_cell? w _ hx197_1)).trans hx197_1
                                  replace hx197_2 := (HB.out.cell (World.block_lt_of_cell? w _ hx197_2)).trans hx197_2
                                  replace p197 := eq_true p197
                                  replace q197 := eq_true q197
                                  try go_wp2_with (first | ((with_reducible refine gate_dst (N := 9) rfl ?_); refine box_event ?hg (N := 9) ?hd (cs := #[.string (⟨#[]⟩ : ByteArray), .bool false, .string (⟨#[]⟩ : ByteArray)]) (t := 67) ?hr ?_; (case hd => rfl); (case hg => rfl); (case hr => first | (go_simp; done) | (go_simp; rfl)); intro gb198 hg w39 hbox hb; have n0_ := Aside0.mk (Kd.R_below (by (with_reducible repeat (first | apply Kd.R_alloc | apply Kd.R_drewN | apply Kd.R_drew)); exact HO_5.out) hb); have n1_ := Aside0.mk (below_step (by repeat (first | (with_reducible first | exact HB.out | apply below_alloc | apply pw_below_drewN | apply below_drew1) | exact HB.out)) hb); have n2_ := Aside0.mk (hbox); have n3_ := Aside0.mk ((by rw [hg]; exact (below_size (by repeat (first | (with_reducible first | exact HB.out | apply below_alloc | apply pw_below_drewN | apply below_drew1) | exact HB.out))) : w.heap.size ≤ gb198)); have n4_ := Aside0.mk ((by rw [hg]; exact (below_size (by repeat (first | (with_reducible first | exact HB.out | apply below_alloc | apply pw_below_drewN | apply below_drew1) | exact HB.out))) : w.heap.size ≤ gb198)); clear HO_5; clear HB; have HO_5 := n0_; have HB := n1_; have BK198 := n2_; have GW198 := n3_; have GE198 := n4_; clear n0_ n1_ n2_ n3_ n4_; clear hb hbox hg; have hcz40_0 : w39.cell? ⟨gb198, 0, none⟩ = some (.string (⟨#[]⟩ : ByteArray)) := (blk_cell BK198.out 0).trans rfl; have hcz40_1 : w39.cell? ⟨gb198, 1, none⟩ = some (.bool false) := (blk_cell BK198.out 1).trans rfl; have hcz40_2 : w39.cell? ⟨gb198, 2, none⟩ = some (.string (⟨#[]⟩ : ByteArray)) := (blk_cell BK198.out 2).trans rfl; have hfz40_0 := blk_frozen BK198.out 0; have hfz40_1 := blk_frozen BK198.out 1; have hfz40_2 := blk_frozen BK198.out 2))
                                  have n0_ : Aside0 (Kd.R (Kd.int .u8) 5 (((w39.setCell ⟨gb198, 0, none⟩ (.string ((rd_T67 (rd_L5 l1 x20_1) x32_2).f0))).setCell ⟨gb198, 1, none⟩ (.bool false)).setCell ⟨gb198, 2, none⟩ (.string ((rd_T67 (rd_L5 l1 x20_1) x32_2).f2))) w.heap.size (fun _ => True) u5 x5_2) := ⟨by (with_reducible repeat (first | apply Kd.R_alloc | apply Kd.R_drewN | apply Kd.R_drew)); exact Kd.R_mono (Kd.R_far (p := ⟨gb198, 2, none⟩) (Kd.R_far (p := ⟨gb198, 1, none⟩) (Kd.R_far (p := ⟨gb198, 0, none⟩) (Kd.R_types HO_5.out BK198.out (by decide)) (fun _ hk => hk.2) (.string ((rd_T67 (rd_L5 l1 x20_1) x32_2).f0))) (fun _ hk => hk.2) (.bool false)) (fun _ hk => hk.2) (.string ((rd_T67 (rd_L5 l1 x20_1) x32_2).f2))) (fun _ hk => trivial)⟩
                                  have n1_ : Aside0 ((((w39.setCell ⟨gb198, 0, none⟩ (.string ((rd_T67 (rd_L5 l1 x20_1) x32_2).f0))).setCell ⟨gb198, 1, none⟩ (.bool false)).setCell ⟨gb198, 2, none⟩ (.string ((rd_T67 (rd_L5 l1 x20_1) x32_2).f2))).heap[gb198]? = some (.cells #[.string ((rd_T67 (rd_L5 l1 x20_1) x32_2).f0), .bool false, .string ((rd_T67 (rd_L5 l1 x20_1) x32_2).f2)] 67 (0, 0))) := ⟨by (with_reducible repeat (first | refine blk_drewN ?_ _ | refine blk_drew ?_ | refine blk_alloc ?_ _)); refine blk_put (cs := #[.string ((rd_T67 (rd_L5 l1 x20_1) x32_2).f0), .bool false, .string (⟨#[]⟩ : ByteArray)]) ?_ 2 _ rfl; (with_reducible repeat (first | refine blk_drewN ?_ _ | refine blk_drew ?_ | refine blk_alloc ?_ _)); refine blk_put (cs := #[.string ((rd_T67 (rd_L5 l1 x20_1) x32_2).f0), .bool false, .string (⟨#[]⟩ : ByteArray)]) ?_ 1 _ rfl; (with_reducible repeat (first | refine blk_drewN ?_ _ | refine blk_drew ?_ | refine blk_alloc ?_ _)); refine blk_put (cs := #[.string (⟨#[]⟩ : ByteArray), .bool false, .string (⟨#[]⟩ : ByteArray)]) ?_ 0 _ rfl; (with_reducible repeat (first | refine blk_drewN ?_ _ | refine blk_drew ?_ | refine blk_alloc ?_ _)); exact BK198.out⟩
                                  have n2_ : Aside0 (Below w.heap.size w (((w39.setCell ⟨gb198, 0, none⟩ (.string ((rd_T67 (rd_L5 l1 x20_1) x32_2).f0))).setCell ⟨gb198, 1, none⟩ (.bool false)).setCell ⟨gb198, 2, none⟩ (.string ((rd_T67 (rd_L5 l1 x20_1) x32_2).f2)))) := ⟨by repeat (first | (with_reducible first | exact HB.out | apply below_alloc | apply pw_below_drewN | apply below_drew1 | refine below_set ?_ GE198.out) | exact HB.out)⟩
                                  (try clear HO_5)
                                  (try clear BK198)
                                  (try clear HB)
                                  generalize (((w39.setCell ⟨gb198, 0, none⟩ (.string ((rd_T67 (rd_L5 l1 x20_1) x32_2).f0))).setCell ⟨gb198, 1, none⟩ (.bool false)).setCell ⟨gb198, 2, none⟩ (.string ((rd_T67 (rd_L5 l1 x20_1) x32_2).f2))) = w41 at n0_ n1_ n2_ ⊢
                                  have HO_5 := n0_
                                  have BK198 := n1_
                                  have HB := n2_
                                  clear n0_ n1_ n2_
                                  have n0_ := Aside0.mk (Kd.R_drew HO_5.out)
                                  have n1_ := Aside0.mk (blk_drew BK198.out)
                                  have n2_ := Aside0.mk (below_drew1 HB.out)
                                  clear HO_5
                                  clear BK198
                                  clear HB
                                  have HO_5 := n0_
                                  have BK198 := n1_
                                  have HB := n2_
                                  clear n0_ n1_ n2_
                                  refine start_ (n := 8) (S := fun w' => w'.cell? ⟨gb198, 0, none⟩ = some (.string ((rd_T67 (rd_L5 l1 x20_1) x32_2).f0)) ∧ w'.cell? ⟨gb198, 1, none⟩ = some (.bool false) ∧ w'.cell? ⟨gb198, 2, none⟩ = some (.string ((rd_T67 (rd_L5 l1 x20_1) x32_2).f2))) (ds := []) #[false, false, false, false, false, false, false, false] (by kernel_rfl) rfl rfl ⟨(blk_cell BK198.out 0).trans rfl, (blk_cell BK198.out 1).trans rfl, (blk_cell BK198.out 2).trans rfl⟩ (fun hHeld => ?_); refine with_tabW log_Put.tab12 log_Put.bits12 (fun HT_ HW_ => ?_)
                                  generalize w41.drew = w42 at HO_5 BK198 HB hHeld ⊢
                                  refine pure_ (i := 0) (N := some 45) (v := ?_) (a' := ?_) #[true, false, false, false, false, false, false, false] rfl rfl (any_of HT_.out (by kernel_rfl)) (fun _ _ _ h => h) (Or.inl ⟨by rfl, ?_⟩) ?_ ?_
                                  rotate_left
                                  · intro w'
                                    go_simp
                                    with_reducible rfl
                                  rotate_left
                                  · simp only [Act.put, List.setIfInBounds_toArray, List.set_cons_zero, List.set_cons_succ, i64_w, i32_w]
                                    rfl
                                  refine pure_ (i := 3) (N := some 48) (v := ?_) (a' := ?_) #[true, false, false, true, false, false, false, false] rfl rfl (any_of HT_.out (by kernel_rfl)) (fun _ _ _ h => h) (Or.inl ⟨by rfl, ?_⟩) ?_ ?_
                                  rotate_left
                                  · intro w'
                                    go_simp
                                    with_reducible rfl
                                  rotate_left
                                  · simp only [Act.put, List.setIfInBounds_toArray, List.set_cons_zero, List.set_cons_succ, i64_w, i32_w]
                                    rfl
                                  refine take_ (i := 4) (N := some 49) (v := ?_) (a' := ?_) #[true, false, false, true, true, false, false, false] rfl rfl (take_ofW HT_.out HW_.out (by kernel_rfl)) (fun _ _ _ h => h) (Or.inl ⟨by rfl, ?_⟩) hHeld ?_ ?_
                                  rotate_left
                                  · rintro w' ⟨s0, s1, s2⟩
                                    go_simp
                                    with_reducible rfl
                                  rotate_left
                                  · simp only [Act.put, List.setIfInBounds_toArray, List.set_cons_zero, List.set_cons_succ, i64_w, i32_w]
                                    rfl
                                  refine one_ (i := 1) (N := some 46) #[true, true, false, true, true, false, false, false] rfl rfl (one_of HT_.out (by kernel_rfl)) (by decide) (fun K hK => ?_)
                                  refine value_ (w1 := ?_) (v := ?_) (by rfl) rfl ?_ ?_
                                  rotate_left 2
                                  · go_simp
                                    constructor
                                    · rfl
                                    · rfl
                                  refine hK.out _ _ ⟨(blk_cell (blk_alloc BK198.out _) 0).trans rfl, (blk_cell (blk_alloc BK198.out _) 1).trans rfl, (blk_cell (blk_alloc BK198.out _) 2).trans rfl⟩ (fun hHeld => ?_)
                                  clear hK K
                                  refine norm_ (a' := ?_) ?_ ?_
                                  rotate_left
                                  · show Act.put _ (some 46) _ = _
                                    simp only [Act.put, List.setIfInBounds_toArray, List.set_cons_zero, List.set_cons_succ, i64_w, i32_w]
                                    rfl
                                  refine one_ (i := 2) (N := some 47) #[true, true, true, true, true, false, false, false] rfl rfl (one_of HT_.out (by kernel_rfl)) (by decide) (fun K hK => ?_)
                                  refine Kd.R_append_step (Kd.int .u8) (w0 := w) w.heap.size (by rfl) (.tmp 45) (.tmp 46) 22 5 (.int .u8 0) 1 rfl Tryd.underlying22 info5 rfl (by decide) (by omega) u5 x5_2 0 [.int .u8 0] (fun _ => True) (fun _ => False) rfl rfl ?aP (fun _ hk => hk.elim) ?aF ?aO ?aB ?aS ?aL ?_
                                  (case aP => exact rfl)
                                  (case aB => exact (by repeat (first | (with_reducible first | exact HB.out | apply below_alloc | apply pw_below_drewN | apply below_drew1 | refine below_set ?_ GE198.out) | exact HB.out)))
                                  (case aF => exact (fun _ _ => trivial))
                                  (case aO => exact (by (with_reducible repeat (first | apply Kd.R_alloc | apply Kd.R_drewN | apply Kd.R_drew)); exact HO_5.out))
                                  (case aS => exact (below_size (by repeat (first | (with_reducible first | exact HB.out | apply below_alloc | apply pw_below_drewN | apply below_drew1 | refine below_set ?_ GE198.out) | exact HB.out))))
                                  (case aL => have := LMc34.out; omega)
                                  intro v209 w43 ho hb hg hat
                                  rw [← Ny208.out] at ho
                                  have n0_ := Aside0.mk (blk_grown (g := gb198) (o := .cells #[.string ((rd_T67 (rd_L5 l1 x20_1) x32_2).f0), .bool false, .string ((rd_T67 (rd_L5 l1 x20_1) x32_2).f2)] 67 (0, 0)) (by (with_reducible repeat (first | refine blk_drewN ?_ _ | refine blk_drew ?_ | refine blk_alloc ?_ _)); exact BK198.out) hg (Kd.R_ne HO_5.out BK198.out (by decide)))
                                  have n1_ := Aside0.mk (hb)
                                  have n2_ := Aside0.mk (ho)
                                  clear BK198
                                  clear HB
                                  clear HO_5
                                  have BK198 := n0_
                                  have HB := n1_
                                  have HO210 := n2_
                                  clear n0_ n1_ n2_
                                  clear ho hb hg hat
                                  refine hK.out _ _ ⟨(blk_cell BK198.out 0).trans rfl, (blk_cell BK198.out 1).trans rfl, (blk_cell BK198.out 2).trans rfl⟩ (fun hHeld => ?_)
                                  clear hK K
                                  refine norm_ (a' := ?_) ?_ ?_
                                  rotate_left
                                  · show Act.put _ (some 47) _ = _
                                    simp only [Act.put, List.setIfInBounds_toArray, List.set_cons_zero, List.set_cons_succ, i64_w, i32_w]
                                    rfl
                                  refine one_ (i := 5) (N := some 50) #[true, true, true, true, true, true, false, false] rfl rfl (one_of HT_.out (by kernel_rfl)) (by decide) (fun K hK => ?_)
                                  refine goes_ Tryd.func58 (by kernel_rfl) rfl #[.slice none 0 0, .string ((rd_T67 (rd_L5 l1 x20_1) x32_2).f0)] (by rfl) rfl rfl (by (try simp only [List.map_toArray, List.map_cons, List.map_nil]); first | done | rfl | (simp only [List.length_drop, List.length_take]; rfl)) ?_
                                  refine (codec_PutText.calls _ _ ([] : List Int) ((rd_T67 (rd_L5 l1 x20_1) x32_2).f0) t211 _ ?side1 ?side2 A35.out).mono ?_
                                  (case side1 => exact Kd.C_nil _ _)
                                  (case side2 => exact Nat.le_refl _)
                                  rintro e w44 ⟨v212, rfl, ho0, hb⟩
                                  refine ⟨_, rfl, ?_⟩
                                  have n0_ := Aside0.mk (Kd.R_elder' (by (with_reducible repeat (first | apply Kd.R_alloc | apply Kd.R_drewN | apply Kd.R_drew)); exact HO210.out) (Kd.R_base ho0) hb)
                                  have n1_ := Aside0.mk (Kd.R_lower (Kd.R_new' ho0 (Kd.R_lt (by (with_reducible repeat (first | apply Kd.R_alloc | apply Kd.R_drewN | apply Kd.R_drew)); exact HO210.out))) (below_size (by repeat (first | (with_reducible first | exact HB.out | apply below_alloc | apply pw_below_drewN | apply below_drew1 | refine below_set ?_ GE198.out) | exact HB.out))))
                                  have n2_ := Aside0.mk (blk_below (g := gb198) (o := .cells #[.string ((rd_T67 (rd_L5 l1 x20_1) x32_2).f0), .bool false, .string ((rd_T67 (rd_L5 l1 x20_1) x32_2).f2)] 67 (0, 0)) (by (with_reducible repeat (first | refine blk_drewN ?_ _ | refine blk_drew ?_ | refine blk_alloc ?_ _)); exact BK198.out) hb)
                                  have n3_ := Aside0.mk (below_step (by repeat (first | (with_reducible first | exact HB.out | apply below_alloc | apply pw_below_drewN | apply below_drew1 | refine below_set ?_ GE198.out) | exact HB.out)) hb)
                                  clear HO210
                                  clear BK198
                                  clear HB
                                  have HO210 := n0_
                                  have HO213 := n1_
                                  have BK198 := n2_
                                  have HB := n3_
                                  clear n0_ n1_ n2_ n3_
                                  (try clear hb)
                                  (try clear hb2)
                                  (try clear hk)
                                  (try clear hi)
                                  (try clear ho0)
                                  obtain ⟨Ao46, co46, eo46⟩ := Kd.R_slice HO213.out
                                  (first | subst eo46 | (injection eo46 with f1_ f2_ f3_; have f4_ := f1_.symm; have f5_ := f3_.symm; clear f1_ f2_ f3_; subst f4_; subst f5_))
                                  refine hK.out _ _ ⟨(blk_cell BK198.out 0).trans rfl, (blk_cell BK198.out 1).trans rfl, (blk_cell BK198.out 2).trans rfl⟩ (fun hHeld => ?_)
                                  clear hK K
                                  refine norm_ (a' := ?_) ?_ ?_
                                  rotate_left
                                  · show Act.put _ (some 50) _ = _
                                    simp only [Act.put, List.setIfInBounds_toArray, List.set_cons_zero, List.set_cons_succ, i64_w, i32_w]
                                    rfl
                                  refine one_ (i := 6) (N := some 51) #[true, true, true, true, true, true, true, false] rfl rfl (one_of HT_.out (by kernel_rfl)) (by decide) (fun K hK => ?_)
                                  refine Kd.R_append_rows_step (Kd.int .u8) (w0 := w) w.heap.size (by rfl) (.tmp 47) (.tmp 50) 22 5 (.int .u8 0) 1 rfl Tryd.underlying22 info5 rfl (by decide) (by omega) v209 y208 t211 _ _ _ (fun k_ => some k_ ≠ (.slice Ao46 t211.length co46 : Value).ownBlock) (fun _ => False) rfl rfl ?aO ?aR (fun _ _ h => h) (fun _ h => h.elim) ?aF ?aB ?aS ?aL ?_
                                  (case aR => repeat (first | exact (Kd.R_reads' HO213.out).2.2 | (with_reducible refine Kd.C_alloc ?_ _) | (with_reducible refine Kd.C_drewN ?_ _) | (with_reducible refine Kd.C_drew ?_)))
                                  (case aB => exact (by repeat (first | (with_reducible first | exact HB.out | apply below_alloc | apply pw_below_drewN | apply below_drew1 | refine below_set ?_ GE198.out) | exact HB.out)))
                                  (case aF => exact (fun k_ hk => Kd.fresh' (Kd.R_lt (by (with_reducible repeat (first | apply Kd.R_alloc | apply Kd.R_drewN | apply Kd.R_drew)); exact HO213.out)) k_ hk))
                                  (case aO => exact (by (with_reducible repeat (first | apply Kd.R_alloc | apply Kd.R_drewN | apply Kd.R_drew)); exact Kd.R_mono HO210.out (fun _ hk => hk.2)))
                                  (case aS => exact (below_size (by repeat (first | (with_reducible first | exact HB.out | apply below_alloc | apply pw_below_drewN | apply below_drew1 | refine below_set ?_ GE198.out) | exact HB.out))))
                                  (case aL => have := LMc36.out; omega)
                                  intro v215 w45 ho hb hg hat
                                  rw [← Ny214.out] at ho
                                  have n0_ := Aside0.mk (blk_grown (g := gb198) (o := .cells #[.string ((rd_T67 (rd_L5 l1 x20_1) x32_2).f0), .bool false, .string ((rd_T67 (rd_L5 l1 x20_1) x32_2).f2)] 67 (0, 0)) (by (with_reducible repeat (first | refine blk_drewN ?_ _ | refine blk_drew ?_ | refine blk_alloc ?_ _)); exact BK198.out) hg (Kd.R_ne HO210.out BK198.out (by decide)))
                                  have n1_ := Aside0.mk (Kd.R_after (ok := (fun _ => True)) (by (with_reducible repeat (first | apply Kd.R_alloc | apply Kd.R_drewN | apply Kd.R_drew)); exact HO213.out) hg hat)
                                  have n2_ := Aside0.mk (hb)
                                  have n3_ := Aside0.mk (ho)
                                  clear BK198
                                  clear HO213
                                  clear HB
                                  clear HO210
                                  have BK198 := n0_
                                  have HO213 := n1_
                                  have HB := n2_
                                  have HO216 := n3_
                                  clear n0_ n1_ n2_ n3_
                                  clear ho hb hg hat
                                  refine hK.out _ _ ⟨(blk_cell BK198.out 0).trans rfl, (blk_cell BK198.out 1).trans rfl, (blk_cell BK198.out 2).trans rfl⟩ (fun hHeld => ?_)
                                  clear hK K
                                  refine norm_ (a' := ?_) ?_ ?_
                                  rotate_left
                                  · show Act.put _ (some 51) _ = _
                                    simp only [Act.put, List.setIfInBounds_toArray, List.set_cons_zero, List.set_cons_succ, i64_w, i32_w]
                                    rfl
                                  refine pure_ (i := 7) (N := some 5) (v := ?_) (a' := ?_) #[true, true, true, true, true, true, true, true] rfl rfl (any_of HT_.out (by kernel_rfl)) (fun _ _ _ h => h) (Or.inl ⟨by rfl, ?_⟩) ?_ ?_
                                  rotate_left
                                  · intro w'
                                    go_simp
                                    with_reducible rfl
                                  rotate_left
                                  · simp only [Act.put, List.setIfInBounds_toArray, List.set_cons_zero, List.set_cons_succ, i64_w, i32_w]
                                    rfl
                                  refine done_ (done_of HT_.out (by kernel_rfl)) ?_
                                  have hcz47_0 : w45.cell? ⟨gb198, 0, none⟩ = some (.string ((rd_T67 (rd_L5 l1 x20_1) x32_2).f0)) := (blk_cell BK198.out 0).trans rfl
                                  have hcz47_1 : w45.cell? ⟨gb198, 1, none⟩ = some (.bool false) := (blk_cell BK198.out 1).trans rfl
                                  have hcz47_2 : w45.cell? ⟨gb198, 2, none⟩ = some (.string ((rd_T67 (rd_L5 l1 x20_1) x32_2).f2)) := (blk_cell BK198.out 2).trans rfl
                                  have hfz47_0 := blk_frozen BK198.out 0
                                  have hfz47_1 := blk_frozen BK198.out 1
                                  have hfz47_2 := blk_frozen BK198.out 2
                                  try go_wp2_with (first | ((with_reducible refine gate_callee (f := 58) rfl ?_); refine goesL_ (some 55) rfl rfl Tryd.func58 (by kernel_rfl) rfl #[.slice none 0 0, .string ((rd_T67 (rd_L5 l1 x20_1) x32_2).f2)] rfl (by (try simp only [List.map_toArray, List.map_cons, List.map_nil]); first | done | rfl | (simp only [List.length_drop, List.length_take]; rfl)) ?_; (refine (codec_PutText.calls _ _ ([] : List Int) ((rd_T67 (rd_L5 l1 x20_1) x32_2).f2) t217 _ ?side1 ?side2 A37.out).mono ?_); (case side1 => exact Kd.C_nil _ _); (case side2 => exact Nat.le_refl _); rintro e w48 ⟨v218, rfl, ho0, hb⟩; refine ⟨_, rfl, ?_⟩; have n0_ := Aside0.mk (Kd.R_elder' (by (with_reducible repeat (first | apply Kd.R_alloc | apply Kd.R_drewN | apply Kd.R_drew)); exact HO213.out) (Kd.R_base ho0) hb); have n1_ := Aside0.mk (Kd.R_elder' (by (with_reducible repeat (first | apply Kd.R_alloc | apply Kd.R_drewN | apply Kd.R_drew)); exact HO216.out) (Kd.R_base ho0) hb); have n2_ := Aside0.mk (Kd.R_lower (Kd.R_new' (Kd.R_new' ho0 (Kd.R_lt (by (with_reducible repeat (first | apply Kd.R_alloc | apply Kd.R_drewN | apply Kd.R_drew)); exact HO213.out))) (Kd.R_lt (by (with_reducible repeat (first | apply Kd.R_alloc | apply Kd.R_drewN | apply Kd.R_drew)); exact HO216.out))) (below_size (by repeat (first | (with_reducible first | exact HB.out | apply below_alloc | apply pw_below_drewN | apply below_drew1 | refine below_set ?_ GE198.out) | exact HB.out)))); have n3_ := Aside0.mk (blk_below (g := gb198) (o := .cells #[.string ((rd_T67 (rd_L5 l1 x20_1) x32_2).f0), .bool false, .string ((rd_T67 (rd_L5 l1 x20_1) x32_2).f2)] 67 (0, 0)) (by (with_reducible repeat (first | refine blk_drewN ?_ _ | refine blk_drew ?_ | refine blk_alloc ?_ _)); exact BK198.out) hb); have n4_ := Aside0.mk (below_step (by repeat (first | (with_reducible first | exact HB.out | apply below_alloc | apply pw_below_drewN | apply below_drew1 | refine below_set ?_ GE198.out) | exact HB.out)) hb); clear HO213; clear HO216; clear BK198; clear HB; have HO213 := n0_; have HO216 := n1_; have HO219 := n2_; have BK198 := n3_; have HB := n4_; clear n0_ n1_ n2_ n3_ n4_; (try clear hb); (try clear hb2); (try clear hk); (try clear hi); (try clear ho0); obtain ⟨Ao50, co50, eo50⟩ := Kd.R_slice HO219.out; subst eo50) | ((with_reducible refine gate_builtin (b := .append) (xs := #[.tmp 52, .tmp 55]) rfl ?_); at_builtin; refine Kd.R_append_rows (Kd.int .u8) (w0 := w) w.heap.size rfl (.tmp 52) (.tmp 55) 22 5 (.int .u8 0) 1 rfl Tryd.underlying22 info5 rfl (by decide) (by omega) v215 y214 t217 _ _ _ (fun k_ => some k_ ≠ (.slice Ao46 t211.length co46 : Value).ownBlock ∧ some k_ ≠ (.slice Ao50 t217.length co50 : Value).ownBlock) (fun _ => False) rfl rfl ?aO ?aR (fun _ _ h => h) (fun _ h => h.elim) ?aF ?aB ?aS ?aL ?_; (case aR => repeat (first | exact (Kd.R_reads' HO219.out).2.2 | (with_reducible refine Kd.C_alloc ?_ _) | (with_reducible refine Kd.C_drewN ?_ _) | (with_reducible refine Kd.C_drew ?_))); (case aB => exact (by repeat (first | (with_reducible first | exact HB.out | apply below_alloc | apply pw_below_drewN | apply below_drew1 | refine below_set ?_ GE198.out) | exact HB.out))); (case aF => exact (fun k_ hk => ⟨Kd.fresh' (Kd.R_lt (by (with_reducible repeat (first | apply Kd.R_alloc | apply Kd.R_drewN | apply Kd.R_drew)); exact HO213.out)) k_ hk, Kd.fresh' (Kd.R_lt (by (with_reducible repeat (first | apply Kd.R_alloc | apply Kd.R_drewN | apply Kd.R_drew)); exact HO219.out)) k_ hk⟩)); (case aO => exact (by (with_reducible repeat (first | apply Kd.R_alloc | apply Kd.R_drewN | apply Kd.R_drew)); exact HO216.out)); (case aS => exact (below_size (by repeat (first | (with_reducible first | exact HB.out | apply below_alloc | apply pw_below_drewN | apply below_drew1 | refine below_set ?_ GE198.out) | exact HB.out)))); (case aL => have := LMc38.out; omega); intro v221 w49 ho hb hg hat; rw [← Ny220.out] at ho; have n0_ := Aside0.mk (blk_grown (g := gb198) (o := .cells #[.string ((rd_T67 (rd_L5 l1 x20_1) x32_2).f0), .bool false, .string ((rd_T67 (rd_L5 l1 x20_1) x32_2).f2)] 67 (0, 0)) (by (with_reducible repeat (first | refine blk_drewN ?_ _ | refine blk_drew ?_ | refine blk_alloc ?_ _)); exact BK198.out) hg (Kd.R_ne HO216.out BK198.out (by decide))); have n1_ := Aside0.mk (Kd.R_after (ok := (fun k_ => some k_ ≠ (.slice Ao50 t217.length co50 : Value).ownBlock)) (by (with_reducible repeat (first | apply Kd.R_alloc | apply Kd.R_drewN | apply Kd.R_drew)); exact Kd.R_mono HO213.out (fun _ hk => ⟨hk.2, hk.1.2⟩)) hg hat); have n2_ := Aside0.mk (Kd.R_after (ok := (fun k_ => some k_ ≠ (.slice Ao46 t211.length co46 : Value).ownBlock)) (by (with_reducible repeat (first | apply Kd.R_alloc | apply Kd.R_drewN | apply Kd.R_drew)); exact Kd.R_mono HO219.out (fun _ hk => ⟨hk.1.2, hk.2⟩)) hg hat); have n3_ := Aside0.mk (hb); have n4_ := Aside0.mk (ho); clear BK198; clear HO213; clear HO219; clear HB; clear HO216; have BK198 := n0_; have HO213 := n1_; have HO219 := n2_; have HB := n3_; have HO222 := n4_; clear n0_ n1_ n2_ n3_ n4_; clear ho hb hg hat))
                                  go_roundg k2
                                  case measure => have := HK1.out; have := HK2.out; omega
                                  case rel => exact ⟨(y220), (wrap64 (x32_2 + 1)), (by first | rfl | (simp; done) | (simp [*]; done)), H', ⟨by have := HK1.out; have := HK2.out; omega⟩, ⟨by (with_reducible repeat (first | apply Kd.R_alloc | apply Kd.R_drewN | apply Kd.R_drew)); exact Kd.R_mono HO222.out (fun _ hk => trivial)⟩, ⟨by repeat (first | (with_reducible first | exact HB.out | apply below_alloc | apply pw_below_drewN | apply below_drew1 | refine below_set ?_ GE198.out) | exact HB.out)⟩⟩
                                · rw [if_neg c38] at H
                                  exact absurd H (by simp)
                              · rw [if_neg c36] at H
                                exact absurd H (by simp)
                            · rw [if_neg c34] at H
                              exact absurd H (by simp)
                        · rw [if_neg c20] at H
                          exact absurd H (by simp)
                      · rw [if_neg c19] at H
                        exact absurd H (by simp)
                    · rw [if_neg c18] at H
                      have c18b0 : decide (x32_2 < ((rd_L5 l1 x20_1).length : Int)) = false := decide_eq_false c18
                      clear c18
                      have H' := Aside0.mk H
                      clear H
                      go_wp2
                      go_roundg k2
                      case measure => have := HK1.out; have := HK2.out; omega
                      case rel => exact ⟨(x5_2), (wrap64 (x20_1 + 1)), (by first | rfl | (simp; done) | (simp [*]; done)), H', ⟨by have := HK1.out; have := HK2.out; omega⟩, ⟨by (with_reducible repeat (first | apply Kd.R_alloc | apply Kd.R_drewN | apply Kd.R_drew)); exact HO_5.out⟩, ⟨by repeat (first | (with_reducible first | exact HB.out | apply below_alloc | apply pw_below_drewN | apply below_drew1) | exact HB.out)⟩⟩
              · rw [if_neg c14] at H
                exact absurd H (by simp)
            · rw [if_neg c12] at H
              exact absurd H (by simp)
          · rw [if_neg c11] at H
            exact absurd H (by simp)
        · rw [if_neg c10] at H
          have c10b0 : decide (x20_1 < (l1.length : Int)) = false := decide_eq_false c10
          clear c10
          obtain rfl := Option.some.inj H
          go_wp2
          go_ret
          exact ⟨_, by first | rfl | (simp [errW_none, errW_some] <;> rfl) | (simp [*, errW_none, errW_some] <;> rfl), by (with_reducible repeat (first | apply Kd.R_alloc | apply Kd.R_drewN | apply Kd.R_drew)); exact HO_5.out, by repeat (first | (with_reducible first | exact HB.out | apply below_alloc | apply pw_below_drewN | apply below_drew1) | exact HB.out)⟩
  · rw [if_neg c5] at H
    exact absurd H (by simp)

end Go.Proofs.YtnamanalacjhnaaDoor.QBk
-- Printed by a program of this claim's own out of the translation.
namespace Go.Proofs.YtnamanalacjhnaaDoor.QBk
open Go.Proofs.YtnamanalacjhnaaDoor.Own
open Go.RowKit Go.Proofs.YtnamanalacjhnaaDoorW.PrintWords Go.Proofs.YtnamanalacjhnaaDoorW.PrintLast Go.Proofs.YtnamanalacjhnaaDoorW.PrintMore
attribute [local go_sem] max2_int min2_int max_two min_two max_three min_three max_four min_four   -- for this text's walks alone
set_option linter.unusedVariables false
set_option linter.unusedSimpArgs false

theorem eqA67 (d : Nat) (w : World) (x0 y0 : ByteArray) (x1 y1 : Bool) (x2 y2 : ByteArray) :
    (Op.equalIn (d + 2) 67 (.agg #[.string x0, .bool x1, .string x2]) (.agg #[.string y0, .bool y1, .string y2])).run Tryd.prog w = .ok (x0.toList == y0.toList && (x1 == y1 && (x2.toList == y2.toList))) w := by
  refine eqA_of Tryd.underlying67 (by kernel_rfl) ?_
  refine eqf_cons (by rfl) (by go_simp; rfl) (by go_simp; rfl) (by go_simp) ?_
  refine eqf_cons (by rfl) (by go_simp; rfl) (by go_simp; rfl) (by go_simp) ?_
  exact eqf_last (by rfl) (by go_simp; rfl) (by go_simp; rfl) (by go_simp)
end Go.Proofs.YtnamanalacjhnaaDoor.QBk
