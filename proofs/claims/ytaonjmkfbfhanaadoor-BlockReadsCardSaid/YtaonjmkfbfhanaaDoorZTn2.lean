/- Lemmas of this claim's own, put together: Own, GSum, Four, Spec, GConvB, Crc, Wk, QBox0, DBkP, QBox2, DBkE, DBkW, DBkK, DBkR, LawU, DMkP. -/
import Derived.Test.YtaonjmkfbfhanaaDoorProg
import Derived.Test.YtaonjmkfbfhanaaDoorZTn1
import Derived.Deep.DeepMust
import Derived.OrdersHeld
import Derived.Deep.QuietTactic
import Derived.BigQuiet
import Derived.Laws.BitsAllLaws
import Derived.Below
import Derived.Deep.Draws
import Derived.Deep.AppendLies
import Derived.Maps.AppendAt
import Derived.OwnWalk
import Derived.Laws.BytesArg
import Derived.Laws.MakeOwn
import Derived.Laws.OwnMore
import Derived.Deep.OwnRows
import Derived.Tactics
import Derived.Lib.ConvBytes
import Derived.Laws.Slices
import Derived.WalkKit
import Derived.KernelRfl
import Derived.RowKit3
import Derived.Deep.LoopGhost
import Derived.WideLaws
import Derived.Deep.DeepCutAuto
import Derived.Deep.CutBlock
import Derived.Deep.RegionHeld3
import Derived.Laws.Rows
import Derived.Lib.AppendStr
import Derived.ArgAppend
import Derived.Laws.IdiomCopy
import Derived.Laws.BitsLemmas
import Derived.RowKit
import Derived.Deep.RegionWith
namespace Go.Proofs.YtaonjmkfbfhanaaDoor.Own
open Go.RowKit Go.Proofs.YtaonjmkfbfhanaaDoorW.PrintWords
set_option linter.unusedVariables false
/-- The numbers of the table of four bits' sums. -/
def nibs : List Int := [0, 274646895, 549293790, 820201905, 1098587580, 1361435347, 1640403810, 1905808397, 2197175160, 2460548119, 2722870694, 2987750089, 3280807620, 3553878443, 3811616794, 4084100981]
/-- The table lies in the world as the program's text lays it. -/
def GT (w : World) : Prop := ∀ i : Nat, i < 16 → w.cell? ⟨0, i, none⟩ = some (.int .u32 (nibs.getD i 0))
theorem GT.below {w w1 : World} (h : GT w) (hb : Below w.heap.size w w1) : GT w1 := fun i hi => pw_cell_below hb (h i hi)
theorem GT.drewN {w : World} (h : GT w) (n : Nat) : GT (w.drewN n) := h
def Bytes (l : List Int) : Prop := ∀ x ∈ l, 0 ≤ x ∧ x ≤ 255
theorem bytes_wf {l : List Int} (h : ∀ x ∈ l, (Lit.int .u8 x).wf = true) : Bytes l := fun x hx => by
  have := h x hx
  simpa [Lit.wf, IntKind.min, IntKind.max, IntKind.signed, IntKind.bits] using this
/-- 'make([]T, n, c)', T a scalar: n zeros, room for c. -/
theorem R_make_cap {P : Program} {ops : Array Oper} {rest : List Oper} {o : Oper} {a : Act} {Q : Exit → Act → World → Prop} {α : Type} {enc : α → Value} {h1 : ∀ x, (enc x).oneCell' = true}
    {w0 W : World} (base e : Nat) (hgd : o.guard = none) {N : Tmp} (hd : o.dst = some N) (t : TypeId) (x y : Operand) (ho : o.op = .makeSlice t x y) (n c : Int) (hx : a.eval x = .int .i64 n) (hy : a.eval y = .int .i64 c)
    (ht : P.underlying t = some (.slice e)) (z0 : α) (bytes : Nat) (hinfo : (P.info? e).map (fun i => (i.zero, i.size, i.bytes)) = some (some (enc z0), 1, bytes)) (hz : (enc z0).cells = #[enc z0]) (hb0 : 0 < bytes)
    {ok : Nat → Prop} (hfresh : ok W.heap.size) (h0 : 0 ≤ n) (hnc : n ≤ c) (hl : c.toNat * bytes ≤ 281474976710656) (HB : Below base w0 W) (hbase : base ≤ W.heap.size)
    (h : ∀ v1 w1, (Kd.scalar enc h1).R e w1 base ok v1 (List.replicate n.toNat z0) → Below base w0 w1 → W.grownBy w1 none → (∃ b, v1.ownBlock = some b ∧ W.heap.size ≤ b) → wpList P ops Q rest (a.put o.dst v1) w1) : wpList P ops Q (o :: rest) a W := by
  obtain ⟨m, rfl⟩ := Int.eq_ofNat_of_zero_le h0
  obtain ⟨k, rfl⟩ := Int.eq_ofNat_of_zero_le (Int.le_trans h0 hnc)
  simp only [Int.toNat_natCast] at hl h
  obtain ⟨i0, hi, hzz⟩ := Option.map_eq_some_iff.1 hinfo
  simp only [Prod.mk.injEq] at hzz
  obtain ⟨hz0, hz1, hz2⟩ := hzz
  have hk : k ≤ 281474976710656 := Nat.le_trans (Nat.le_mul_of_pos_right _ hb0) hl
  have hmk : m ≤ k := by omega
  have hr := run_make (P := P) W t e i0 (enc z0) ht hi hz0 .i64 .i64 (m : Int) (k : Int) (by omega) (by omega)
    (by
      have h3 : ((i0.bytes * k : Nat) : Int) ≤ 281474976710656 := by rw [hz2, Nat.mul_comm]; omega
      rwa [Int.natCast_mul] at h3) (by omega)
  simp only [Int.toNat_natCast] at hr
  rw [hz1, Nat.mul_one] at hr
  refine Kd.event_run (v := .slice (some ⟨W.heap.size, 0, none⟩) m k) (w1 := W.alloc (.cells (madeCells (enc z0).cells k) e)) hgd ?_ (h _ _ ⟨fun q hq => ?_, (madeCells (enc z0).cells m).toList, ?_, ?_⟩ (HB.alloc hbase _) (World.grownBy_alloc W _ none) ⟨W.heap.size, by simp [Value.ownBlock], Nat.le_refl _⟩)
  · simp [execOp, ho, hx, hy, hr]
  · have : W.heap.size = q := by simpa [Value.ownBlock] using hq
    subst this
    exact hfresh
  · refine ⟨by simp [size_madeCells, Kd.scalar], .inr ⟨W.heap.size, k, madeCells (enc z0).cells k, by simp, hbase, heap_alloc_new W _, by simpa using hmk, by simp [maxLen]; omega, by simp [size_madeCells, Kd.scalar], ?_⟩⟩
    rw [hz]
    apply List.ext_getElem
    · simp [size_madeCells, Kd.scalar]; omega
    · intro i h1 h2
      simp [madeCells, Nat.mod_one]
  · have := Kd.reps_made (R := (Kd.scalar enc h1).M W base (fun k => ok k ∧ some k ≠ (Value.slice (some ⟨W.heap.size, 0, none⟩) m k).ownBlock)) (z := enc z0) (size := 1) (z0 := z0) (by rw [hz]; rfl) (by decide) (by rw [hz]; rfl) m
    rw [Nat.mul_one] at this
    exact this
end Go.Proofs.YtaonjmkfbfhanaaDoor.Own
namespace Go.Proofs.YtaonjmkfbfhanaaDoor.G
open Go.RowKit Go.Proofs.YtaonjmkfbfhanaaDoorW.PrintWords Go.Proofs.YtaonjmkfbfhanaaDoor.Own
set_option linter.unusedVariables false
def nibv (x : Int) : Int := nibs.getD x.toNat 0
def sum1 (x : Int) : Int := bits .xor .u32 (nibv (bits .and .u32 x 15)) (x / 16)
def sumc (x c : Int) : Int := sum1 (sum1 (bits .xor .u32 x c))
def sumf (l : List Int) : Int := l.foldl sumc 4294967295
def sumF (l : List Int) : Int := bits .xor .u32 4294967295 (sumf l)
def U32 (x : Int) : Prop := 0 ≤ x ∧ x < 4294967296
theorem u32_xor_range {x y : Int} (hx : U32 x) (hy : U32 y) : U32 (bits .xor .u32 x y) := by
  obtain ⟨a, rfl⟩ := Int.eq_ofNat_of_zero_le hx.1
  obtain ⟨b, rfl⟩ := Int.eq_ofNat_of_zero_le hy.1
  have ha : a < 2 ^ 32 := by have := hx.2; omega
  have hb : b < 2 ^ 32 := by have := hy.2; omega
  rw [u32_xor_nat a b (by omega) (by omega)]
  have := Nat.xor_lt_two_pow ha hb
  constructor <;> omega
theorem and15 {x : Int} (hx : U32 x) : bits .and .u32 x 15 = x % 16 := by
  obtain ⟨a, rfl⟩ := Int.eq_ofNat_of_zero_le hx.1
  rw [show (15 : Int) = ((15 : Nat) : Int) from rfl, u32_and_nat a 15 (by have := hx.2; omega) (by omega)]
  have : a &&& 15 = a % 16 := Nat.and_two_pow_sub_one_eq_mod a 4
  omega
theorem nibv_range (x : Int) : U32 (nibv x) := by
  unfold nibv
  generalize x.toNat = n
  rcases Nat.lt_or_ge n 16 with h | h
  · have : n = 0 ∨ n = 1 ∨ n = 2 ∨ n = 3 ∨ n = 4 ∨ n = 5 ∨ n = 6 ∨ n = 7 ∨ n = 8 ∨ n = 9 ∨ n = 10 ∨ n = 11 ∨ n = 12 ∨ n = 13 ∨ n = 14 ∨ n = 15 := by omega
    rcases this with rfl | rfl | rfl | rfl | rfl | rfl | rfl | rfl | rfl | rfl | rfl | rfl | rfl | rfl | rfl | rfl <;> simp [nibs, U32]
  · rw [List.getD_eq_getElem?_getD, List.getElem?_eq_none (by simpa [nibs] using h)]
    simp [U32]
theorem sum1_range {x : Int} (hx : U32 x) : U32 (sum1 x) := u32_xor_range (nibv_range _) ⟨by have := hx.1; omega, by have := hx.2; omega⟩
theorem sumc_range {x c : Int} (hx : U32 x) (hc : 0 ≤ c ∧ c ≤ 255) : U32 (sumc x c) := sum1_range (sum1_range (u32_xor_range hx ⟨hc.1, by omega⟩))
theorem foldl_range (l : List Int) (x : Int) (hx : U32 x) (hl : Bytes l) : U32 (l.foldl sumc x) := by
  induction l generalizing x with
  | nil => exact hx
  | cons c l ih => exact ih _ (sumc_range hx (hl c (by simp))) (fun y hy => hl y (by simp [hy]))
theorem sumf_range {l : List Int} (hl : Bytes l) : U32 (sumf l) := foldl_range l _ (by simp [U32]) hl
theorem sumf_snoc (l : List Int) (k : Nat) (h : k < l.length) : sumf (l.take (k + 1)) = sumc (sumf (l.take k)) (rd l k) := by
  unfold sumf
  rw [List.take_succ_eq_append_getElem h, List.foldl_append]
  simp [rd, List.getD_eq_getElem?_getD, h]
theorem bytes_rd {l : List Int} (hl : Bytes l) (k : Nat) (h : k < l.length) : 0 ≤ rd l k ∧ rd l k ≤ 255 := by
  simp only [rd, Int.toNat_natCast, List.getD_eq_getElem?_getD, List.getElem?_eq_getElem h, Option.getD_some]
  exact hl _ (List.getElem_mem h)
theorem cellT {w : World} (h : GT w) {x : Int} (hx : U32 x) : 0 ≤ bits .and .u32 x 15 ∧ bits .and .u32 x 15 < 16 ∧ w.cell? ⟨0, (bits .and .u32 x 15).toNat, none⟩ = some (.int .u32 (nibv (bits .and .u32 x 15))) := by
  rw [and15 hx]
  exact ⟨by omega, by omega, h _ (by omega)⟩
set_option maxHeartbeats 400000 in
theorem sum_calls (A0 : Option Addr) (c0 : Nat) (l0 : List Int) (w : World) (hr0 : Kd.C (Kd.int .u8) w A0 l0.length l0) (hc0 : l0.length ≤ c0) (hl : Bytes l0) (hT : GT w) :
    Calls Tryd.prog 77 #[.slice A0 l0.length c0] w fun e w' => e = .returned (.int .u32 (sumF l0)) ∧ w' = w := by
  have hm := hr0.2.1
  have HR0 := Aside0.mk hr0
  have HT := Aside0.mk hT
  have HL := Aside0.mk hl
  clear hr0 hT hl
  go_enter Tryd.func77, Tryd.ntmps77
  go_wp2
  go_loop [3, 8] (fun x i => ∃ k : Nat, k ≤ l0.length ∧ i = .int .i64 k ∧ x = .int .u32 (sumf (l0.take k))) (fun _ i => l0.length - (intOf i).toNat)
  case atStart => exact ⟨0, Nat.zero_le _, rfl, rfl⟩
  case round =>
    obtain ⟨k, hk, rfl, rfl⟩ := hrel
    by_cases hlt : k < l0.length
    · obtain ⟨x, hx⟩ : ∃ x, x = sumf (l0.take k) := ⟨_, rfl⟩
      rw [← hx]
      have HX := Aside0.mk hx
      have hxb : U32 x := by rw [hx]; exact sumf_range (fun y hy => HL.out y (List.mem_of_mem_take hy))
      clear hx
      obtain ⟨ad, e1, hcell⟩ := Kd.at_int HR0.out (k : Int) (by omega) (by omega)
      cases e1
      simp only [Int.toNat_natCast] at hcell
      have HC := Aside0.mk (bytes_rd HL.out k hlt)
      obtain ⟨c, hc⟩ : ∃ c, c = rd l0 k := ⟨_, rfl⟩
      rw [← hc] at hcell
      have hcb := HC.out
      rw [← hc] at hcb
      have hy := u32_xor_range hxb ⟨hcb.1, by omega⟩
      have HCC := Aside0.mk hc
      clear hc HC
      obtain ⟨p1, p2, p3⟩ := cellT HT.out hy
      obtain ⟨q1, q2, q3⟩ := cellT HT.out (sum1_range hy)
      have HF := Aside0.mk (sumf_snoc l0 k hlt)
      have hcb1 := hcb.1
      have hcb2 := hcb.2
      have HY := Aside0.mk hy
      have HXB := Aside0.mk hxb
      unfold sum1 at q1 q2 q3
      clear hcb hy hxb
      go_wp2
      go_round
      case rel => exact ⟨k + 1, by omega, by go_num, by rw [HF.out, ← HX.out, ← HCC.out]; rfl⟩
      case measure => simp [intOf]; omega
    · have HXB := Aside0.mk (sumf_range HL.out)
      have HK : l0.take k = l0 := List.take_of_length_le (by omega)
      rw [HK]
      clear HK
      go_wp2
      go_ret
      exact ⟨rfl, rfl⟩
end Go.Proofs.YtaonjmkfbfhanaaDoor.G
namespace Go.Proofs.YtaonjmkfbfhanaaDoor.G
open Go.RowKit Go.Proofs.YtaonjmkfbfhanaaDoorW.PrintWords Go.Proofs.YtaonjmkfbfhanaaDoor.Own
set_option linter.unusedVariables false
def fourL (x : Int) : List Int := [x % 256, x / 256 % 256, x / 65536 % 256, x / 16777216]
theorem bytes_four {x : Int} (h : U32 x) : Bytes (fourL x) := by
  obtain ⟨h0, h1⟩ := h
  intro y hy
  simp only [fourL, List.mem_cons, List.not_mem_nil, or_false] at hy
  rcases hy with rfl | rfl | rfl | rfl <;> omega
theorem four_eq {x : Int} (h : U32 x) : ([x % 256, (x / 256) % 256, (x / 65536) % 256, (x / 16777216) % 256] : List Int) = fourL x := by
  obtain ⟨h0, h1⟩ := h
  unfold fourL
  rw [show x / 16777216 % 256 = x / 16777216 by omega]
theorem bytes_app {l m : List Int} (hl : Bytes l) (hm : Bytes m) : Bytes (l ++ m) := fun y hy => by
  rcases List.mem_append.1 hy with h | h
  · exact hl y h
  · exact hm y h
theorem four_len (x : Int) : (fourL x).length = 4 := rfl
theorem sumF_range {l : List Int} (hl : Bytes l) : U32 (sumF l) := u32_xor_range (by simp [U32]) (sumf_range hl)
theorem bytes_drop {l : List Int} (h : Bytes l) (n : Nat) : Bytes (l.drop n) := fun y hy => h y (List.mem_of_mem_drop hy)
end Go.Proofs.YtaonjmkfbfhanaaDoor.G
namespace Go.Proofs.YtaonjmkfbfhanaaDoor.Own
open Go.RowKit Go.Proofs.YtaonjmkfbfhanaaDoorW.PrintWords Go.Proofs.YtaonjmkfbfhanaaDoorW.PrintMore
set_option linter.unusedVariables false
def okB (l : List Int) : Bool := l.all fun x => decide (0 ≤ x ∧ x ≤ 255)
theorem okB_iff {l : List Int} : okB l = true ↔ Bytes l := by simp [okB, Bytes, List.all_eq_true]
theorem u64_nat {n : Nat} (h : n < 18446744073709551616) : IntKind.u64.wrap (n : Int) = (n : Int) := by
  simp [IntKind.wrap, IntKind.bits, IntKind.signed]
  omega
/-- A number's bytes. -/
def numL (n : Nat) : List Int := if n < 128 then [(n : Int)] else ((n % 128 + 128 : Nat) : Int) :: numL (n / 128)
termination_by n
decreasing_by omega
theorem numL_small {n : Nat} (h : n < 128) : numL n = [(n : Int)] := by rw [numL, if_pos h]
theorem numL_big {n : Nat} (h : ¬ n < 128) : numL n = ((n % 128 + 128 : Nat) : Int) :: numL (n / 128) := by rw [numL, if_neg h]
theorem numL_bytes (n : Nat) : Bytes (numL n) := by
  induction n using Nat.strongRecOn with
  | _ n ih =>
    by_cases h : n < 128
    · rw [numL_small h]
      intro x hx
      obtain rfl := List.mem_singleton.1 hx
      omega
    · rw [numL_big h]
      intro x hx
      rcases List.mem_cons.1 hx with rfl | hx
      · omega
      · exact ih (n / 128) (by omega) x hx
theorem numL_len (d : Nat) : ∀ n : Nat, n < 128 ^ (d + 1) → (numL n).length ≤ d + 1 := by
  induction d with
  | zero => intro n h; rw [numL_small (by omega)]; simp
  | succ d ih =>
    intro n h
    by_cases h1 : n < 128
    · rw [numL_small h1]; simp
    · rw [numL_big h1]
      have := ih (n / 128) (by rw [Nat.pow_succ] at h; omega)
      simp only [List.length_cons]
      omega
theorem numL_len10 {n : Nat} (h : n < 18446744073709551616) : (numL n).length ≤ 10 := numL_len 9 n (by omega)
theorem numL_pos (n : Nat) : 1 ≤ (numL n).length := by
  by_cases h : n < 128
  · rw [numL_small h]; simp
  · rw [numL_big h]; simp
/-- A number read: from place i on, with what was read so far. -/
def uintR : List Int → Nat → Nat → Nat × Nat × Nat
  | [], _, _ => (0, 0, 20)
  | c :: r, i, a => if (c = 0 ∧ 0 < i) ∨ (i = 9 ∧ c ≠ 1) then (0, 0, 21) else if c < 128 then (a + c.toNat % 128 * 128 ^ i, i + 1, 0) else uintR r (i + 1) (a + c.toNat % 128 * 128 ^ i)
def uintN (l : List Int) : Nat × Nat × Nat := uintR l 0 0
def i3 (x : Nat × Nat × Nat) : Int × Int × Int := ((x.1 : Int), (x.2.1 : Int), (x.2.2 : Int))
def uintL (l : List Int) : Int × Int × Int := i3 (uintN l)
theorem or128 (a : Nat) (h : a < 256) : a ||| 128 = a % 128 + 128 := by
  have h1 : a % 128 ||| 128 = a % 128 + 128 := by
    rw [Nat.or_comm, ← Nat.two_pow_add_eq_or_of_lt (i := 7) (by omega) 1]
    omega
  have h2 : a ||| 128 = (a % 128) ||| 128 := by
    apply Nat.eq_of_testBit_eq
    intro i
    rw [Nat.testBit_or, Nat.testBit_or, show (128 : Nat) = 2 ^ 7 from rfl, Nat.testBit_mod_two_pow, Nat.testBit_two_pow]
    by_cases hi : i < 7
    · simp [hi]
    · by_cases h7 : 7 = i
      · simp [h7]
      · have : a.testBit i = false := Nat.testBit_lt_two_pow (Nat.lt_of_lt_of_le h (show 2 ^ 8 ≤ 2 ^ i from Nat.pow_le_pow_right (by decide) (by omega)))
        simp [this]
  rw [h2, h1]
theorem own_or128 (x : Int) (h : 0 ≤ x) : Go.bits .or .u8 (x % 256) 128 = ((x.toNat % 128 + 128 : Nat) : Int) := by
  obtain ⟨a, rfl⟩ := Int.eq_ofNat_of_zero_le h
  rw [show ((a : Int) % 256) = ((a % 256 : Nat) : Int) by omega, show (128 : Int) = ((128 : Nat) : Int) from rfl, u8_or_nat _ _ (by omega) (by omega), or128 _ (by omega)]
  have : a % 256 % 128 = a % 128 := by omega
  rw [this]
  rfl
theorem uintR_spec (l : List Int) (hl : Bytes l) : ∀ i a, i ≤ 9 → a < 128 ^ i → (uintR l i a).1 < 18446744073709551616 ∧ (uintR l i a).2.1 ≤ l.length + i ∧ (uintR l i a).2.1 ≤ 10 := by
  induction l with
  | nil => intro i a _ _; simp [uintR]
  | cons c r ih =>
    intro i a hi ha
    have hc := hl c (by simp)
    have hp : 128 ^ i ≤ 128 ^ 9 := Nat.pow_le_pow_right (by decide) hi
    have h9 : (128 : Nat) ^ 9 = 9223372036854775808 := by decide
    have h8 : i ≤ 8 → 128 ^ i ≤ 72057594037927936 := fun h => Nat.le_trans (Nat.pow_le_pow_right (by decide) h) (by decide)
    simp only [uintR]
    by_cases hz : c = 0 ∧ 0 < i ∨ i = 9 ∧ c ≠ 1
    · rw [if_pos hz]; simp
    · rw [if_neg hz]
      by_cases h1 : c < 128
      · rw [if_pos h1]
        refine ⟨?_, by simp; omega, by simp; omega⟩
        simp only
        rcases Nat.lt_or_ge i 9 with h | h
        · have h2 : c.toNat % 128 * 128 ^ i ≤ 127 * 72057594037927936 := Nat.mul_le_mul (by omega) (h8 (by omega))
          omega
        · obtain rfl : i = 9 := by omega
          have : c = 1 := by omega
          subst this
          simp
          omega
      · rw [if_neg h1]
        have := ih (fun y hy => hl y (by simp [hy])) (i + 1) (a + c.toNat % 128 * 128 ^ i) (by omega) (by
          rw [Nat.pow_succ]
          have : c.toNat % 128 * 128 ^ i ≤ 127 * 128 ^ i := Nat.mul_le_mul_right _ (by omega)
          omega)
        refine ⟨this.1, by simp; omega, this.2.2⟩
theorem uintN_spec (l : List Int) (hl : Bytes l) : (uintN l).1 < 18446744073709551616 ∧ (uintN l).2.1 ≤ l.length ∧ (uintN l).2.1 ≤ 10 := by
  have := uintR_spec l hl 0 0 (by omega) (by decide)
  simpa [uintN] using this
/-- A text read. -/
def textL (l : List Int) (most : Int) : ByteArray × Int × Int :=
  let u := uintN l
  if ¬ u.2.2 = 0 then ((⟨#[]⟩ : ByteArray), 0, (u.2.2 : Int))
  else if most < 0 ∨ (u.1 : Int) > most then ((⟨#[]⟩ : ByteArray), 0, 22)
  else if u.1 > l.length - u.2.1 then ((⟨#[]⟩ : ByteArray), 0, 20)
  else (strOfNums ((l.take (u.2.1 + u.1)).drop u.2.1), ((u.2.1 + u.1 : Nat) : Int), 0)
theorem own_and127 (x : Int) (h : 0 ≤ x ∧ x ≤ 255) : Go.bits .and .u8 x 127 = ((x.toNat % 128 : Nat) : Int) := by
  obtain ⟨a, rfl⟩ := Int.eq_ofNat_of_zero_le h.1
  rw [show (127 : Int) = ((127 : Nat) : Int) from rfl, u8_and_nat _ _ (by omega) (by omega)]
  have : a &&& 127 = a % 128 := Nat.and_two_pow_sub_one_eq_mod a 7
  rw [this]
  rfl
theorem pow128 (i : Nat) : 128 ^ i = 2 ^ (7 * i) := by rw [show 128 = 2 ^ 7 from rfl, ← Nat.pow_mul]
/-- One more group of seven bits. -/
theorem acc_step (a c i : Nat) (ha : a < 128 ^ i) (hc : c < 128) (hi : i ≤ 8 ∨ i = 9 ∧ c = 1) :
    Go.bits .or .u64 (a : Int) (shl .u64 (c : Int) (7 * (i : Int))) = ((a + c * 128 ^ i : Nat) : Int) ∧ a + c * 128 ^ i < 18446744073709551616 := by
  have hp : 128 ^ i ≤ 128 ^ 9 := Nat.pow_le_pow_right (by decide) (by omega)
  have h9 : (128 : Nat) ^ 9 = 9223372036854775808 := by decide
  have h8 : i ≤ 8 → 128 ^ i ≤ 72057594037927936 := fun h => Nat.le_trans (Nat.pow_le_pow_right (by decide) h) (by decide)
  have hlt : c * 128 ^ i ≤ 9223372036854775808 := by
    rcases hi with h | ⟨rfl, rfl⟩
    · have h1 : c * 128 ^ i ≤ 127 * 72057594037927936 := Nat.mul_le_mul (by omega) (h8 h)
      omega
    · omega
  have hsum : a + c * 128 ^ i < 18446744073709551616 := by omega
  refine ⟨?_, hsum⟩
  have hm : min (7 * (i : Int)).toNat IntKind.u64.bits = 7 * i := by
    have h1 : (7 * (i : Int)).toNat = 7 * i := by omega
    have h2 : IntKind.u64.bits = 64 := rfl
    rw [h1, h2]
    omega
  have hs : shl .u64 (c : Int) (7 * (i : Int)) = ((c * 128 ^ i : Nat) : Int) := by
    unfold shl
    rw [hm, show ((2 : Int) ^ (7 * i)) = ((128 ^ i : Nat) : Int) by rw [pow128]; simp]
    have hw : ∀ n : Nat, n < 18446744073709551616 → IntKind.u64.wrap (n : Int) = (n : Int) := fun n hn => by
      simp [IntKind.wrap, IntKind.bits, IntKind.signed]
      omega
    rw [← Int.natCast_mul]
    exact hw _ (by omega)
  rw [hs, u64_or_nat _ _ (by omega) (by omega)]
  congr 1
  rw [pow128] at ha ⊢
  rw [Nat.mul_comm c, Nat.add_comm a, Nat.two_pow_add_eq_or_of_lt ha, Nat.or_comm]
theorem acc_lt (a c i : Nat) (ha : a < 128 ^ i) (hc : c < 128) : a + c * 128 ^ i < 128 ^ (i + 1) := by
  rw [Nat.pow_succ]
  have : c * 128 ^ i ≤ 127 * 128 ^ i := Nat.mul_le_mul_right _ (by omega)
  omega
end Go.Proofs.YtaonjmkfbfhanaaDoor.Own
namespace Go.Proofs.YtaonjmkfbfhanaaDoor.G
open Go.RowKit Go.Proofs.YtaonjmkfbfhanaaDoorW.PrintWords Go.Proofs.YtaonjmkfbfhanaaDoor.Own
set_option linter.unusedVariables false
end Go.Proofs.YtaonjmkfbfhanaaDoor.G
namespace Go.Proofs.YtaonjmkfbfhanaaDoor.G
open Go.RowKit Go.Proofs.YtaonjmkfbfhanaaDoorW.PrintWords Go.Proofs.YtaonjmkfbfhanaaDoor.Own
set_option linter.unusedVariables false
/-- One bit's step of the sum. -/
def stepN (x : Nat) : Nat := if x % 2 = 1 then x / 2 ^^^ 2197175160 else x / 2
theorem xor_half (a b : Nat) : (a ^^^ b) / 2 = a / 2 ^^^ b / 2 := by
  have := Nat.shiftRight_xor_distrib (a := a) (b := b) (i := 1)
  simpa [Nat.shiftRight_eq_div_pow] using this
theorem xor_odd (a b : Nat) : (a ^^^ b) % 2 = (a % 2) ^^^ (b % 2) := by
  have := Nat.xor_mod_two_pow (a := a) (b := b) (n := 1)
  simpa using this
theorem stepN_xor (a b : Nat) : stepN (a ^^^ b) = stepN a ^^^ stepN b := by
  unfold stepN
  rw [xor_half, xor_odd]
  rcases Nat.mod_two_eq_zero_or_one a with ha | ha <;> rcases Nat.mod_two_eq_zero_or_one b with hb | hb <;> rw [ha, hb] <;> simp
  · rw [Nat.xor_assoc]
  · rw [Nat.xor_assoc, Nat.xor_assoc]
    congr 1
    exact Nat.xor_comm _ _
  · rw [Nat.xor_assoc, ← Nat.xor_assoc 2197175160, Nat.xor_comm 2197175160, Nat.xor_assoc, Nat.xor_self, Nat.xor_zero]
theorem stepN_two (m : Nat) : stepN (2 * m) = m := by
  unfold stepN
  rw [if_neg (by omega)]
  omega
theorem split16 (x : Nat) : x = (16 * (x / 16)) ^^^ (x % 16) := by
  apply Nat.eq_of_testBit_eq
  intro i
  rw [Nat.testBit_xor, show (16 : Nat) = 2 ^ 4 from rfl, Nat.testBit_two_pow_mul, Nat.testBit_mod_two_pow, Nat.testBit_div_two_pow]
  by_cases h : i < 4
  · simp [h, show ¬ 4 ≤ i by omega]
  · simp [h, show 4 ≤ i by omega, show i - 4 + 4 = i by omega]
def step4 (x : Nat) : Nat := stepN (stepN (stepN (stepN x)))
theorem step4_xor (a b : Nat) : step4 (a ^^^ b) = step4 a ^^^ step4 b := by simp only [step4, stepN_xor]
theorem step4_low (i : Nat) (h : i < 16) : (step4 i : Int) = nibs.getD i 0 := by
  have : i = 0 ∨ i = 1 ∨ i = 2 ∨ i = 3 ∨ i = 4 ∨ i = 5 ∨ i = 6 ∨ i = 7 ∨ i = 8 ∨ i = 9 ∨ i = 10 ∨ i = 11 ∨ i = 12 ∨ i = 13 ∨ i = 14 ∨ i = 15 := by omega
  rcases this with rfl | rfl | rfl | rfl | rfl | rfl | rfl | rfl | rfl | rfl | rfl | rfl | rfl | rfl | rfl | rfl <;> decide
theorem step4_eq (x : Nat) (hx : x < 4294967296) : (step4 x : Int) = sum1 (x : Int) := by
  have h1 : step4 x = x / 16 ^^^ step4 (x % 16) := by
    conv => lhs; rw [split16 x, step4_xor]
    congr 1
    unfold step4
    rw [show 16 * (x / 16) = 2 * (2 * (2 * (2 * (x / 16)))) by omega, stepN_two, stepN_two, stepN_two, stepN_two]
  have hU : U32 (x : Int) := ⟨by omega, by omega⟩
  unfold sum1
  rw [and15 hU]
  have h2 := step4_low (x % 16) (by omega)
  have h3 : ((x : Int) % 16).toNat = x % 16 := by omega
  unfold nibv
  rw [h3, ← h2, show ((x : Int) / 16) = ((x / 16 : Nat) : Int) by omega]
  have hr := nibv_range ((x : Int) % 16)
  unfold nibv at hr
  rw [h3, ← h2] at hr
  rw [u32_xor_nat _ _ (by have := hr.2; omega) (by omega), h1, Nat.xor_comm]
end Go.Proofs.YtaonjmkfbfhanaaDoor.G
namespace Go.Proofs.YtaonjmkfbfhanaaDoor.Wk
open Go.RowKit Go.Proofs.YtaonjmkfbfhanaaDoorW.PrintWords Go.Proofs.YtaonjmkfbfhanaaDoor.Own
set_option linter.unusedVariables false
/-- A list that is read at A, n long, with room for c. -/
def Rd {α : Type} (d : Kd α) (w : World) (A : Option Addr) (n c : Nat) (l : List α) : Prop := l.length = n ∧ n ≤ c ∧ Kd.C d w A n l
section
variable {α : Type} {d : Kd α} {w w' : World} {A : Option Addr} {n c : Nat} {l : List α}
theorem Rd.step (h : Rd d w A n c l) (hb : Below w.heap.size w w') : Rd d w' A n c l := ⟨h.1, h.2.1, Kd.C_below h.2.2 hb⟩
theorem Rd.nil (d : Kd α) (w : World) : Rd d w none 0 0 [] := ⟨rfl, Nat.le_refl _, Kd.C_nil d w⟩
theorem Rd.of_R {e base : Nat} {ok : Nat → Prop} {v : Value} (h : Kd.R d e w base ok v l) : ∃ A n c, v = .slice A n c ∧ Rd d w A n c l ∧ Kd.R d e w base ok (.slice A n c) l := by
  obtain ⟨A, c, rfl, h1, h2⟩ := Kd.R_reads h
  exact ⟨A, l.length, c, rfl, ⟨rfl, h1, h2⟩, h⟩
theorem Rd.of_own {e base : Nat} {ok : Nat → Prop} (h : Kd.R d e w base ok (.slice A n c) l) : Rd d w A n c l := by
  obtain ⟨A', n', c', e1, h1, -⟩ := Rd.of_R h
  injection e1 with e2 e3 e4
  subst e2 e3 e4
  exact h1
theorem Rd.take (h : Rd d w A n c l) (m : Nat) (hm : m ≤ n) : Rd d w A m c (l.take m) := by
  obtain ⟨rfl, a2, a3⟩ := h
  have h3 := Kd.C_take a3 hm
  have hl : (l.take m).length = m := by rw [List.length_take]; omega
  rw [hl] at h3
  exact ⟨hl, by omega, h3⟩
/-- 'x[:m]'. -/
theorem Rd.to {P : Program} {t e : TypeId} {z : Value} {sz b : Nat} (ht : P.underlying t = some (.slice e)) (hi : (P.info? e).map (fun i => (i.zero, i.size, i.bytes)) = some (some z, sz, b)) (kh : IntKind) (A : Option Addr) (n c m : Nat) (hm : m ≤ n) (hc : n ≤ c) :
    ∀ W : World, (Instr.slice t (.slice A n c) none (some (.int kh (m : Int))) none).run P W = .ok (.slice A m c) W := by
  obtain ⟨i0, hi0, _, _, _⟩ := info_parts hi
  have h := cut_to (P := P) t e kh ht hi0 A n c (m : Int) (by omega) (by omega) hc
  rwa [Int.toNat_natCast] at h
/-- 'x[m:]'. -/
theorem Rd.from {P : Program} {t e : TypeId} {z : Value} {b : Nat} (d : Kd α) (ht : P.underlying t = some (.slice e)) (hi : (P.info? e).map (fun i => (i.zero, i.size, i.bytes)) = some (some z, d.sz, b)) (kl : IntKind) (A : Option Addr) (n c m : Nat) (hm : m ≤ n) (hc : n ≤ c) :
    ∃ A', (∀ W : World, (Instr.slice t (.slice A n c) (some (.int kl (m : Int))) none none).run P W = .ok (.slice A' (n - m) (c - m)) W) ∧ ∀ (w : World) (l : List α), Rd d w A n c l → Rd d w A' (n - m) (c - m) (l.drop m) := by
  obtain ⟨i0, hi0, _, hsz, _⟩ := info_parts hi
  have h := cut_from (P := P) t e kl ht hi0 d.sz hsz A n c (m : Int) (by omega) (by omega)
  rw [Int.toNat_natCast] at h
  refine ⟨_, h, fun w l hr => ?_⟩
  obtain ⟨rfl, a2, a3⟩ := hr
  have h3 := Kd.C_drop a3 hm a2
  rw [List.length_drop] at h3
  exact ⟨List.length_drop, by omega, h3⟩
/-- 'x[lo:hi]'. -/
theorem Rd.mid {P : Program} {t e : TypeId} {z : Value} {b : Nat} (d : Kd α) (ht : P.underlying t = some (.slice e)) (hi : (P.info? e).map (fun i => (i.zero, i.size, i.bytes)) = some (some z, d.sz, b)) (kl kh : IntKind) (A : Option Addr) (n c lo hi' : Nat) (h1 : lo ≤ hi') (h2 : hi' ≤ n) (hc : n ≤ c) :
    ∃ A', (∀ W : World, (Instr.slice t (.slice A n c) (some (.int kl (lo : Int))) (some (.int kh (hi' : Int))) none).run P W = .ok (.slice A' (hi' - lo) (c - lo)) W) ∧ ∀ (w : World) (l : List α), Rd d w A n c l → Rd d w A' (hi' - lo) (c - lo) ((l.take hi').drop lo) := by
  obtain ⟨i0, hi0, _, hsz, _⟩ := info_parts hi
  have h := cut_mid (P := P) t e kl kh ht hi0 d.sz hsz A n c (lo : Int) (hi' : Int) (by omega) (by omega) (by omega) hc
  rw [Int.toNat_natCast, Int.toNat_natCast] at h
  refine ⟨_, h, fun w l hr => ?_⟩
  obtain ⟨rfl, a2, a3⟩ := hr
  have h3 := Kd.C_mid a3 h1 h2 a2
  have hl : ((l.take hi').drop lo).length = hi' - lo := by rw [List.length_drop, List.length_take]; omega
  rw [hl] at h3
  exact ⟨hl, by omega, h3⟩
end
/-- What a call that makes a list answers: the list, told apart; older memory stays. -/
def Made {α : Type} (d : Kd α) (t : Nat) (w : World) (spec : List α) (e : Ending) (w' : World) : Prop := ∃ A n c l, e = .returned (.slice A n c) ∧ l = spec ∧ Rd d w' A n c l ∧ Kd.R d t w' w.heap.size (fun _ => True) (.slice A n c) l ∧ Below w.heap.size w w'
theorem Made.of {α : Type} {d : Kd α} {t : Nat} {w : World} {spec : List α} {e : Ending} {w' : World} (h : ∃ v0_ : Value, e = .returned (v0_) ∧ Kd.R d t w' w.heap.size (fun _ => True) v0_ spec ∧ Below w.heap.size w w') : Made d t w spec e w' := by
  obtain ⟨v, rfl, h1, h2⟩ := h
  obtain ⟨A, n, c, rfl, h3, h4⟩ := Rd.of_R h1
  exact ⟨A, n, c, spec, rfl, rfl, h3, h4, h2⟩
def Says (w : World) (b : Bool) (e : Ending) (w' : World) : Prop := e = .returned (.bool b) ∧ Below w.heap.size w w'
theorem Says.of {w : World} {b : Bool} {e : Ending} {w' : World} (h : e = .returned (.bool b) ∧ Drawn0 w w') : Says w b e w' := ⟨h.1, h.2.below⟩
def Ow {α : Type} (d : Kd α) (t base : Nat) (w : World) (A : Option Addr) (n c : Nat) (l : List α) : Prop := l.length = n ∧ Kd.R d t w base (fun _ => True) (.slice A n c) l
theorem Ow.step {α : Type} {d : Kd α} {t base : Nat} {w w' : World} {A : Option Addr} {n c : Nat} {l : List α} (h : Ow d t base w A n c l) (hb : Below w.heap.size w w') : Ow d t base w' A n c l := ⟨h.1, Kd.R_below h.2 hb⟩
theorem Ow.rd {α : Type} {d : Kd α} {t base : Nat} {w : World} {A : Option Addr} {n c : Nat} {l : List α} (h : Ow d t base w A n c l) : Rd d w A n c l := Rd.of_own h.2
def Tab (w : World) : Prop := GT w
theorem Tab.step {w w' : World} (h : Tab w) (hb : Below w.heap.size w w') : Tab w' := GT.below h hb
/-- Older memory stays, from the law's begin on. -/
def Bel (w W : World) : Prop := Below w.heap.size w W
theorem Bel.step {w W W' : World} (h : Bel w W) (hb : Below W.heap.size W W') : Bel w W' := below_step h hb
end Go.Proofs.YtaonjmkfbfhanaaDoor.Wk
namespace Go.Proofs.YtaonjmkfbfhanaaDoor.QBo
open Go.Proofs.YtaonjmkfbfhanaaDoor.Own
open Go.RowKit Go.Proofs.YtaonjmkfbfhanaaDoorW.PrintWords Go.Proofs.YtaonjmkfbfhanaaDoorW.PrintLast Go.Proofs.YtaonjmkfbfhanaaDoorW.PrintMore
attribute [local go_sem] max2_int min2_int max_two min_two max_three min_three max_four min_four   -- for this text's walks alone
set_option linter.unusedVariables false
set_option linter.unusedSimpArgs false
def errW : Option Int → Value
  | none => .nilIface
  | some c => .iface 0 (.int .i64 c)
theorem errW_none : errW none = .nilIface := rfl
theorem errW_some (c : Int) : errW (some c) = .iface 0 (.int .i64 c) := rfl
theorem info3 : (Tryd.prog.info? 3).map (fun i => (i.zero, i.size, i.bytes)) = some (some (.int .i64 0), 1, 8) := by kernel_rfl
theorem info5 : (Tryd.prog.info? 5).map (fun i => (i.zero, i.size, i.bytes)) = some (some (.int .u8 0), 1, 1) := by kernel_rfl
theorem info30 : (Tryd.prog.info? 30).map (fun i => (i.zero, i.size, i.bytes)) = some (some (.agg #[(.string ⟨#[]⟩), (.int .u64 0), (.bool false), (.string ⟨#[]⟩)]), 4, 48) := by kernel_rfl
def rd_L1 (xs : List (List Int)) (i : Int) : (List Int) := xs.getD i.toNat ([] : List Int)
theorem at_L1 {w : World} {A : Option Addr} {n : Nat} {xs : List (List Int)} (h : Kd.C (Kd.slice 5 (Kd.int .u8)) w A n xs) (i : Int) (h0 : 0 ≤ i) (h1 : i < n) : ∃ ad A0 c0, A = some ad ∧ w.cell? (ad.add i.toNat) = some (.slice A0 (rd_L1 xs i).length c0) ∧ (rd_L1 xs i).length ≤ c0 ∧ (Kd.int .u8).C w A0 (rd_L1 xs i).length (rd_L1 xs i) := by
  obtain ⟨ad, c, e, _, hK, hc0⟩ := Kd.C_get h ([] : List Int) i h0 h1
  have hc : ∀ j u, c[j]? = some u → w.cell? (ad.add (i.toNat * 1 + j)) = some u := hc0
  obtain ⟨A0, c0, rfl, l0, g0⟩ := hK
  exact ⟨ad, A0, c0, e, by have hq := hc 0 _ rfl; rwa [Nat.mul_one, Nat.add_zero] at hq, l0, g0⟩
structure S30 where
  f0 : ByteArray
  f1 : Int
  f2 : Bool
  f3 : ByteArray
def z30 : S30 := ⟨(⟨#[]⟩ : ByteArray), (0 : Int), false, (⟨#[]⟩ : ByteArray)⟩
def k30 : Kd S30 := Kd.iso (Kd.pair Kd.string (Kd.pair (Kd.int .u64) (Kd.pair Kd.bool Kd.string))) (fun x : S30 => (x.f0, x.f1, x.f2, x.f3))
theorem k30_open {w : World} {x : S30} {cs : List Value} (h : k30.K w x cs) : cs = [.string x.f0, .int .u64 x.f1, .bool x.f2, .string x.f3] := by
  obtain ⟨_, _, rfl, rfl, ⟨_, _, rfl, rfl, ⟨_, _, rfl, rfl, rfl⟩⟩⟩ := h
  exact rfl
theorem k30_mkM (w : World) (base : Nat) (ok : Nat → Prop) (x : S30)  : k30.M w base ok x [.string x.f0, .int .u64 x.f1, .bool x.f2, .string x.f3] := ⟨[.string x.f0], [.int .u64 x.f1, .bool x.f2, .string x.f3], rfl, rfl, ⟨[.int .u64 x.f1], [.bool x.f2, .string x.f3], rfl, rfl, ⟨[.bool x.f2], [.string x.f3], rfl, rfl, rfl⟩⟩⟩
def rd_T30 (xs : List S30) (i : Int) : S30 := xs.getD i.toNat z30
theorem at_T30 {w : World} {A : Option Addr} {n : Nat} {xs : List S30} (h : Kd.C k30 w A n xs) (i : Int) (h0 : 0 ≤ i) (h1 : i < n) : ∃ ad , A = some ad ∧ w.cell? (ad.add (i.toNat * 4)) = some (.string (rd_T30 xs i).f0) ∧ w.cell? ⟨(ad.add (i.toNat * 4)).block, (ad.add (i.toNat * 4)).off + 1, none⟩ = some (.int .u64 (rd_T30 xs i).f1) ∧ w.cell? ⟨(ad.add (i.toNat * 4)).block, (ad.add (i.toNat * 4)).off + 2, none⟩ = some (.bool (rd_T30 xs i).f2) ∧ w.cell? ⟨(ad.add (i.toNat * 4)).block, (ad.add (i.toNat * 4)).off + 3, none⟩ = some (.string (rd_T30 xs i).f3) := by
  obtain ⟨ad, c, e, _, hK, hc0⟩ := Kd.C_get h z30 i h0 h1
  have hc : ∀ j u, c[j]? = some u → w.cell? (ad.add (i.toNat * 4 + j)) = some u := hc0
  obtain rfl := k30_open hK
  exact ⟨ad, e, hc 0 _ rfl, by rw [← add_field _ _ 1 (by omega)]; exact hc 1 _ rfl, by rw [← add_field _ _ 2 (by omega)]; exact hc 2 _ rfl, by rw [← add_field _ _ 3 (by omega)]; exact hc 3 _ rfl⟩
structure S112 where
  f0 : ByteArray
  f1 : Bool
  f2 : ByteArray
def z112 : S112 := ⟨(⟨#[]⟩ : ByteArray), false, (⟨#[]⟩ : ByteArray)⟩
def k112 : Kd S112 := Kd.iso (Kd.pair Kd.string (Kd.pair Kd.bool Kd.string)) (fun x : S112 => (x.f0, x.f1, x.f2))
theorem k112_open {w : World} {x : S112} {cs : List Value} (h : k112.K w x cs) : cs = [.string x.f0, .bool x.f1, .string x.f2] := by
  obtain ⟨_, _, rfl, rfl, ⟨_, _, rfl, rfl, rfl⟩⟩ := h
  exact rfl
theorem k112_mkM (w : World) (base : Nat) (ok : Nat → Prop) (x : S112)  : k112.M w base ok x [.string x.f0, .bool x.f1, .string x.f2] := ⟨[.string x.f0], [.bool x.f1, .string x.f2], rfl, rfl, ⟨[.bool x.f1], [.string x.f2], rfl, rfl, rfl⟩⟩
def rd_T112 (xs : List S112) (i : Int) : S112 := xs.getD i.toNat z112
theorem at_T112 {w : World} {A : Option Addr} {n : Nat} {xs : List S112} (h : Kd.C k112 w A n xs) (i : Int) (h0 : 0 ≤ i) (h1 : i < n) : ∃ ad , A = some ad ∧ w.cell? (ad.add (i.toNat * 3)) = some (.string (rd_T112 xs i).f0) ∧ w.cell? ⟨(ad.add (i.toNat * 3)).block, (ad.add (i.toNat * 3)).off + 1, none⟩ = some (.bool (rd_T112 xs i).f1) ∧ w.cell? ⟨(ad.add (i.toNat * 3)).block, (ad.add (i.toNat * 3)).off + 2, none⟩ = some (.string (rd_T112 xs i).f2) := by
  obtain ⟨ad, c, e, _, hK, hc0⟩ := Kd.C_get h z112 i h0 h1
  have hc : ∀ j u, c[j]? = some u → w.cell? (ad.add (i.toNat * 3 + j)) = some u := hc0
  obtain rfl := k112_open hK
  exact ⟨ad, e, hc 0 _ rfl, by rw [← add_field _ _ 1 (by omega)]; exact hc 1 _ rfl, by rw [← add_field _ _ 2 (by omega)]; exact hc 2 _ rfl⟩
end Go.Proofs.YtaonjmkfbfhanaaDoor.QBo
namespace Go.Proofs.YtaonjmkfbfhanaaDoor.Bk
open Go.RowKit Go.Proofs.YtaonjmkfbfhanaaDoorW.PrintWords Go.Proofs.YtaonjmkfbfhanaaDoor.Own Go.Proofs.YtaonjmkfbfhanaaDoor.G
set_option linter.unusedVariables false
abbrev En := QBo.S30
abbrev kE : Kd En := QBo.k30
/-- The numbers with which an entry begins: they, and where they end. -/
def numsR : Nat → List Int → Nat → List Nat → Option (List Nat × Nat)
  | 0, _, a, acc => some (acc, a)
  | k + 1, l, a, acc => if (uintN (l.drop a)).2.2 ≠ 0 then none else numsR k l (a + (uintN (l.drop a)).2.1) (acc ++ [(uintN (l.drop a)).1])
/-- The entry with which bytes begin, behind one with a key: it, and how many bytes it takes. -/
def entryL (l : List Int) (ahead : ByteArray) : Option (En × Nat) :=
  match numsR 3 l 0 [] with
  | none => none
  | some (ns, a) =>
    let n0 := ns.getD 0 0
    let n1 := ns.getD 1 0
    let n2 := ns.getD 2 0
    if n0 > ahead.size ∨ n1 > l.length - a then none
    else
      let key := ahead.extract 0 n0 ++ strOfNums ((l.take (a + n1)).drop a)
      if n2 % 2 = 1 then some (⟨key, ((n2 / 2 : Nat) : Int), true, (⟨#[]⟩ : ByteArray)⟩, a + n1)
      else
        let t := textL (l.drop (a + n1)) 512
        if t.2.2 ≠ 0 then none else some (⟨key, ((n2 / 2 : Nat) : Int), false, t.1⟩, a + n1 + t.2.1.toNat)
theorem numsR_step (k : Nat) (l : List Int) (a : Nat) (acc : List Nat) : numsR (k + 1) l a acc = if (uintN (l.drop a)).2.2 ≠ 0 then none else numsR k l (a + (uintN (l.drop a)).2.1) (acc ++ [(uintN (l.drop a)).1]) := rfl
theorem uintR_pos (l : List Int) : ∀ i a, (uintR l i a).2.2 = 0 → i + 1 ≤ (uintR l i a).2.1 ∧ (uintR l i a).2.1 ≤ l.length + i := by
  induction l with
  | nil => intro i a h; simp [uintR] at h
  | cons c r ih =>
    intro i a h
    simp only [uintR] at h ⊢
    split at h
    · simp at h
    · rename_i h1
      rw [if_neg h1]
      split at h
      · rename_i h2
        rw [if_pos h2]
        simp only [List.length_cons]
        omega
      · rename_i h2
        rw [if_neg h2]
        have := ih _ _ h
        simp only [List.length_cons]
        omega
theorem textL_form (l : List Int) (m : Int) : ∃ (b : ByteArray) (K e : Nat), textL l m = (b, (K : Int), (e : Int)) ∧ K ≤ l.length := by
  unfold textL
  simp only
  split
  · exact ⟨_, 0, _, rfl, Nat.zero_le _⟩
  · rename_i h
    split
    · exact ⟨_, 0, 22, rfl, Nat.zero_le _⟩
    · split
      · exact ⟨_, 0, 20, rfl, Nat.zero_le _⟩
      · rename_i h2 h3
        refine ⟨_, _, 0, rfl, ?_⟩
        have h4 : (uintN l).2.2 = 0 := by omega
        have := uintR_pos l 0 0 h4
        unfold uintN at h3 ⊢
        omega
end Go.Proofs.YtaonjmkfbfhanaaDoor.Bk
namespace Go.Proofs.YtaonjmkfbfhanaaDoor.QBo
open Go.Proofs.YtaonjmkfbfhanaaDoor.Own
open Go.RowKit Go.Proofs.YtaonjmkfbfhanaaDoorW.PrintWords Go.Proofs.YtaonjmkfbfhanaaDoorW.PrintLast Go.Proofs.YtaonjmkfbfhanaaDoorW.PrintMore
attribute [local go_sem] max2_int min2_int max_two min_two max_three min_three max_four min_four   -- for this text's walks alone
set_option linter.unusedVariables false
set_option linter.unusedSimpArgs false
def block_word.f (l0 : List Int) : Option (Int) := if 0 < (l0.length : Int) then (if 1 < (l0.length : Int) then (if 2 < (l0.length : Int) then (if 3 < (l0.length : Int) then (some (Go.bits .or .i64 (Go.bits .or .i64 (Go.bits .or .i64 (wrap64 (rd l0 0)) (wrap64 ((wrap64 (rd l0 1)) * 256))) (wrap64 ((wrap64 (rd l0 2)) * 65536))) (wrap64 ((wrap64 (rd l0 3)) * 16777216)))) else (none)) else (none)) else (none)) else (none)
set_option maxHeartbeats 8000000 in
set_option maxRecDepth 100000 in
theorem block_word.calls (A0 : Option Addr) (c0 : Nat) (l0 : List Int) (r : Int) (w : World) (hr0 : Kd.C (Kd.int .u8) w A0 l0.length l0) (hc0 : l0.length ≤ c0) (h : block_word.f l0 = some r) :
    Calls Tryd.prog 70 #[.slice A0 l0.length c0] w fun e w' => e = .returned (.int .i64 r) ∧ Drawn0 w w' := by
  have HR0 := Aside0.mk hr0
  have HC0 := Aside0.mk hc0
  clear hr0 hc0
  have H : (if 0 < (l0.length : Int) then (if 1 < (l0.length : Int) then (if 2 < (l0.length : Int) then (if 3 < (l0.length : Int) then (some (Go.bits .or .i64 (Go.bits .or .i64 (Go.bits .or .i64 (wrap64 (rd l0 0)) (wrap64 ((wrap64 (rd l0 1)) * 256))) (wrap64 ((wrap64 (rd l0 2)) * 65536))) (wrap64 ((wrap64 (rd l0 3)) * 16777216)))) else (none)) else (none)) else (none)) else (none)) = some r := h
  clear h
  by_cases c2 : 0 < (l0.length : Int)
  · rw [if_pos c2] at H
    have c2b0 : decide (0 < (l0.length : Int)) = true := decide_eq_true c2
    have c2b1 : decide (0 < l0.length) = true := decide_eq_true (by omega)
    clear c2
    by_cases c3 : 1 < (l0.length : Int)
    · rw [if_pos c3] at H
      have c3b0 : decide (1 < (l0.length : Int)) = true := decide_eq_true c3
      have c3b1 : decide (1 < l0.length) = true := decide_eq_true (by omega)
      clear c3
      by_cases c4 : 2 < (l0.length : Int)
      · rw [if_pos c4] at H
        have c4b0 : decide (2 < (l0.length : Int)) = true := decide_eq_true c4
        have c4b1 : decide (2 < l0.length) = true := decide_eq_true (by omega)
        clear c4
        by_cases c5 : 3 < (l0.length : Int)
        · rw [if_pos c5] at H
          have c5b0 : decide (3 < (l0.length : Int)) = true := decide_eq_true c5
          have c5b1 : decide (3 < l0.length) = true := decide_eq_true (by omega)
          clear c5
          obtain rfl := Option.some.inj H
          have p101 : 0 ≤ (0 : Int) := (by omega)
          have q101 : 0 < (l0.length : Int) := of_decide_eq_true (by first | (with_reducible assumption) | assumption)
          obtain ⟨ad101, e101, hx101_0⟩ := Kd.at_int HR0.out 0 p101 q101
          cases e101
          have qi101 : (0 < l0.length) = True := eq_true (by omega)
          (try rw [show ((0 : Int)).toNat = 0 from rfl] at hx101_0)
          (try rw [Addr.add_zero'] at hx101_0)
          replace p101 := eq_true p101
          replace q101 := eq_true q101
          have p102 : 0 ≤ (1 : Int) := (by omega)
          have q102 : 1 < (l0.length : Int) := of_decide_eq_true (by first | (with_reducible assumption) | assumption)
          obtain ⟨ad102, e102, hx102_0⟩ := Kd.at_int HR0.out 1 p102 q102
          obtain rfl : ad101 = ad102 := (by injection e102)
          (try simp only [show (1 : Int).toNat = 1 from rfl, Nat.reduceMul, Nat.reduceEqDiff, Go.Addr.add, ↓reduceIte] at hx102_0)
          have qi102 : (1 < l0.length) = True := eq_true (by omega)
          (try rw [show ((1 : Int)).toNat = 1 from rfl] at hx102_0)
          replace p102 := eq_true p102
          replace q102 := eq_true q102
          have p103 : 0 ≤ (2 : Int) := (by omega)
          have q103 : 2 < (l0.length : Int) := of_decide_eq_true (by first | (with_reducible assumption) | assumption)
          obtain ⟨ad103, e103, hx103_0⟩ := Kd.at_int HR0.out 2 p103 q103
          obtain rfl : ad101 = ad103 := (by injection e103)
          (try simp only [show (2 : Int).toNat = 2 from rfl, Nat.reduceMul, Nat.reduceEqDiff, Go.Addr.add, ↓reduceIte] at hx103_0)
          have qi103 : (2 < l0.length) = True := eq_true (by omega)
          (try rw [show ((2 : Int)).toNat = 2 from rfl] at hx103_0)
          replace p103 := eq_true p103
          replace q103 := eq_true q103
          have p104 : 0 ≤ (3 : Int) := (by omega)
          have q104 : 3 < (l0.length : Int) := of_decide_eq_true (by first | (with_reducible assumption) | assumption)
          obtain ⟨ad104, e104, hx104_0⟩ := Kd.at_int HR0.out 3 p104 q104
          obtain rfl : ad101 = ad104 := (by injection e104)
          (try simp only [show (3 : Int).toNat = 3 from rfl, Nat.reduceMul, Nat.reduceEqDiff, Go.Addr.add, ↓reduceIte] at hx104_0)
          have qi104 : (3 < l0.length) = True := eq_true (by omega)
          (try rw [show ((3 : Int)).toNat = 3 from rfl] at hx104_0)
          replace p104 := eq_true p104
          replace q104 := eq_true q104
          go_enter Tryd.func70, Tryd.ntmps70
          go_wp2
          repeat (go_quiet (fail); try go_wp2)
          go_ret
          exact ⟨by first | rfl | (simp; done) | (simp [*]; done), by repeat (first | exact Drawn0.refl _ | apply Drawn0.step)⟩
        · rw [if_neg c5] at H
          exact absurd H (by simp)
      · rw [if_neg c4] at H
        exact absurd H (by simp)
    · rw [if_neg c3] at H
      exact absurd H (by simp)
  · rw [if_neg c2] at H
    exact absurd H (by simp)
mutual
def codec_Uint_p.l0 : Nat → Int → List Int → Int → Int → Option (Int × Int × Int)
  | 0, _, _, _, _ => none
  | k + 1, x5, x8, x9, x10 => if x10 < x9 then (if 0 ≤ x10 then (if x10 < (x8.length : Int) then (if (rd x8 x10) = 0 then (if x10 > 0 then (codec_Uint_p.j1 k x5 x10 (rd x8 x10) x8 x9 x10 true) else (if x10 = 9 then (codec_Uint_p.j1 k x5 x10 (rd x8 x10) x8 x9 x10 ((rd x8 x10) != 1)) else (codec_Uint_p.j1 k x5 x10 (rd x8 x10) x8 x9 x10 false))) else (if x10 = 9 then (codec_Uint_p.j1 k x5 x10 (rd x8 x10) x8 x9 x10 ((rd x8 x10) != 1)) else (codec_Uint_p.j1 k x5 x10 (rd x8 x10) x8 x9 x10 false))) else (none)) else (none)) else (some (0, 0, 20))
def codec_Uint_p.j1 : Nat → Int → Int → Int → List Int → Int → Int → Bool → Option (Int × Int × Int)
  | 0, _, _, _, _, _, _, _ => none
  | k + 1, x5, x6, x7, x8, x9, x10, x28 => if x28 = true then (some (0, 0, 21)) else (if 0 ≤ (wrap64 (7 * x6)) then (if x7 < 128 then (some (Go.bits .or .u64 x5 (shl .u64 (IntKind.u64.wrap (Go.bits .and .u8 x7 127)) (wrap64 (7 * x6))), wrap64 (x6 + 1), 0)) else (codec_Uint_p.l0 k (Go.bits .or .u64 x5 (shl .u64 (IntKind.u64.wrap (Go.bits .and .u8 x7 127)) (wrap64 (7 * x6)))) x8 x9 (wrap64 (x10 + 1)))) else (none))
end
def codec_Uint_p.f (k : Nat) (l0 : List Int) : Option (Int × Int × Int) := codec_Uint_p.l0 k 0 l0 (l0.length : Int) 0
theorem codec_Uint_p.mono_l : ∀ k, (∀ y0 y1 y2 y3, LeO (codec_Uint_p.l0 k y0 y1 y2 y3) (codec_Uint_p.l0 (k + 1) y0 y1 y2 y3)) ∧ (∀ y0 y1 y2 y3 y4 y5 y6, LeO (codec_Uint_p.j1 k y0 y1 y2 y3 y4 y5 y6) (codec_Uint_p.j1 (k + 1) y0 y1 y2 y3 y4 y5 y6))
  | 0 => ⟨fun _ _ _ _ r h => by simp [codec_Uint_p.l0] at h, fun _ _ _ _ _ _ _ r h => by simp [codec_Uint_p.j1] at h⟩
  | k + 1 => by
    obtain ⟨ih0, ih1⟩ := codec_Uint_p.mono_l k
    refine ⟨?_, ?_⟩
    · intro y0 y1 y2 y3
      unfold codec_Uint_p.l0
      repeat' first
      | (with_reducible exact ih0 _ _ _ _)
      | (with_reducible exact ih1 _ _ _ _ _ _ _)
      | (with_reducible exact LeO.refl _)
      | (with_reducible exact LeO.none _)
      | (with_reducible refine LeO.ite ?_ ?_)
      | (with_reducible refine LeO.bind ?_ (fun _ => ?_))
      | exact ih0 _ _ _ _
      | exact ih1 _ _ _ _ _ _ _
      | exact LeO.none _
      | refine LeO.ite ?_ ?_
      | refine LeO.bind ?_ (fun _ => ?_)
    · intro y0 y1 y2 y3 y4 y5 y6
      unfold codec_Uint_p.j1
      repeat' first
      | (with_reducible exact ih0 _ _ _ _)
      | (with_reducible exact ih1 _ _ _ _ _ _ _)
      | (with_reducible exact LeO.refl _)
      | (with_reducible exact LeO.none _)
      | (with_reducible refine LeO.ite ?_ ?_)
      | (with_reducible refine LeO.bind ?_ (fun _ => ?_))
      | exact ih0 _ _ _ _
      | exact ih1 _ _ _ _ _ _ _
      | exact LeO.none _
      | refine LeO.ite ?_ ?_
      | refine LeO.bind ?_ (fun _ => ?_)
theorem codec_Uint_p.mono : ∀ a0 k, LeO (codec_Uint_p.f k a0) (codec_Uint_p.f (k + 1) a0) := by
  intro a0 k
  obtain ⟨ih0, ih1⟩ := codec_Uint_p.mono_l k
  unfold codec_Uint_p.f
  repeat' first
      | (with_reducible exact ih0 _ _ _ _)
      | (with_reducible exact ih1 _ _ _ _ _ _ _)
      | (with_reducible exact LeO.refl _)
      | (with_reducible exact LeO.none _)
      | (with_reducible refine LeO.ite ?_ ?_)
      | (with_reducible refine LeO.bind ?_ (fun _ => ?_))
      | exact ih0 _ _ _ _
      | exact ih1 _ _ _ _ _ _ _
      | exact LeO.none _
      | refine LeO.ite ?_ ?_
      | refine LeO.bind ?_ (fun _ => ?_)
set_option maxHeartbeats 8000000 in
set_option maxRecDepth 100000 in
theorem codec_Uint_p.calls (k : Nat) (A0 : Option Addr) (c0 : Nat) (l0 : List Int) (r1 : Int) (r2 : Int) (r3 : Int) (w : World) (hr0 : Kd.C (Kd.int .u8) w A0 l0.length l0) (hc0 : l0.length ≤ c0) (h : codec_Uint_p.f k l0 = some (r1, r2, r3)) :
    Calls Tryd.prog 85 #[.slice A0 l0.length c0] w fun e w' => e = .returned (.tuple #[.int .u64 r1, .int .i64 r2, .int .i64 r3]) ∧ Drawn0 w w' := by
  have HR0 := Aside0.mk hr0
  have HC0 := Aside0.mk hc0
  clear hr0 hc0
  have H : (codec_Uint_p.l0 k 0 l0 (l0.length : Int) 0) = some (r1, r2, r3) := h
  clear h
  have H' := Aside0.mk H
  clear H
  go_enter Tryd.func85, Tryd.ntmps85
  go_wp2
  go_loopg [5, 10] k (fun kq v5 v10 w' => ∃ (x5_1 : Int) (x10_1 : Int), v5 = .int .u64 x5_1 ∧ v10 = .int .i64 x10_1 ∧ Aside0 (codec_Uint_p.l0 kq x5_1 l0 (l0.length : Int) x10_1 = some (r1, r2, r3)) ∧ Aside0 (kq ≤ k) ∧ Drawn0 w w')
  case atStart => exact ⟨(0), (0), (by first | rfl | (simp; done) | (simp [*]; done)), (by first | rfl | (simp; done) | (simp [*]; done)), H', ⟨Nat.le_refl _⟩, by repeat (first | exact Drawn0.refl _ | apply Drawn0.step)⟩
  case round =>
    clear H'
    obtain ⟨x5_1, x10_1, rfl, rfl, HA, HK1, ⟨m1, rfl⟩⟩ := hrel
    cases gk with
    | zero => exact absurd HA.out (by simp [codec_Uint_p.l0])
    | succ k1 =>
      have H := HA.out
      clear HA
      simp only [codec_Uint_p.l0] at H
      by_cases c2 : x10_1 < (l0.length : Int)
      · rw [if_pos c2] at H
        have c2b0 : decide (x10_1 < (l0.length : Int)) = true := decide_eq_true c2
        clear c2
        by_cases c3 : 0 ≤ x10_1
        · rw [if_pos c3] at H
          have c3b0 : decide (0 ≤ x10_1) = true := decide_eq_true c3
          clear c3
          by_cases c4 : x10_1 < (l0.length : Int)
          · rw [if_pos c4] at H
            have c4b0 : decide (x10_1 < (l0.length : Int)) = true := decide_eq_true c4
            clear c4
            have HC5 := Aside0.mk H
            clear H
            have p105 : 0 ≤ (x10_1 : Int) := of_decide_eq_true (by first | (with_reducible assumption) | assumption)
            have q105 : x10_1 < (l0.length : Int) := of_decide_eq_true (by first | (with_reducible assumption) | assumption)
            obtain ⟨ad105, e105, hx105_0⟩ := Kd.at_int HR0.out x10_1 p105 q105
            cases e105
            replace p105 := eq_true p105
            replace q105 := eq_true q105
            go_upto_region 5 with (fail)
            (try (obtain ⟨tb1_, hTB1_⟩ : ∃ tb_ : Bool, (((rd l0 x10_1) == 0)) = tb_ := ⟨_, rfl⟩; simp only [hTB1_]; have TB1_ := Aside0.mk hTB1_; clear hTB1_))
            go_cut [28] (fun v28 wc => ∃ (kq : Nat) (x28_4 : Bool), v28 = .bool x28_4 ∧ Aside0 (codec_Uint_p.j1 kq x5_1 x10_1 (rd l0 x10_1) l0 (l0.length : Int) x10_1 x28_4 = some (r1, r2, r3)) ∧ Aside0 (kq ≤ k1) ∧ Drawn0 w wc)
            case first =>
              have H := HC5.out
              clear HC5
              by_cases c6 : (rd l0 x10_1) = 0
              · rw [if_pos c6] at H
                have c6b0 : ((rd l0 x10_1) == 0) = true := beq_iff_eq.mpr c6
                (try (obtain rfl := TB1_.out.symm.trans c6b0))
                have c6b1 : ((rd l0 x10_1) != 0) = false := bne_eq_false_iff_eq.mpr c6
                clear c6
                (first | rw [c6b0] | (simp only [i64_w, i32_w]; rw [c6b0]) | skip)
                by_cases c7 : x10_1 > 0
                · rw [if_pos c7] at H
                  have c7b0 : decide (0 < x10_1) = true := decide_eq_true c7
                  clear c7
                  have H' := Aside0.mk H
                  clear H
                  go_wp2
                  go_meet
                  case rel => exact ⟨_, (true), (by first | rfl | (simp; done) | (simp [*]; done)), H', ⟨by have := HK1.out; first | omega | exact Nat.le_refl _⟩, by repeat (first | exact Drawn0.refl _ | apply Drawn0.step)⟩
                · rw [if_neg c7] at H
                  have c7b0 : decide (0 < x10_1) = false := decide_eq_false c7
                  clear c7
                  by_cases c8 : x10_1 = 9
                  · rw [if_pos c8] at H
                    have c8b0 : (x10_1 == 9) = true := beq_iff_eq.mpr c8
                    have c8b1 : (x10_1 != 9) = false := bne_eq_false_iff_eq.mpr c8
                    clear c8
                    have H' := Aside0.mk H
                    clear H
                    go_wp2
                    go_meet
                    case rel => exact ⟨_, (((rd l0 x10_1) != 1)), (by first | rfl | (simp; done) | (simp [*]; done)), H', ⟨by have := HK1.out; first | omega | exact Nat.le_refl _⟩, by repeat (first | exact Drawn0.refl _ | apply Drawn0.step)⟩
                  · rw [if_neg c8] at H
                    have c8b0 : (x10_1 == 9) = false := beq_eq_false_iff_ne.mpr c8
                    have c8b1 : (x10_1 != 9) = true := bne_iff_ne.mpr c8
                    have H' := Aside0.mk H
                    clear H
                    go_wp2
                    go_meet
                    case rel => exact ⟨_, (false), (by first | rfl | (simp; done) | (simp [*]; done)), H', ⟨by have := HK1.out; first | omega | exact Nat.le_refl _⟩, by repeat (first | exact Drawn0.refl _ | apply Drawn0.step)⟩
              · rw [if_neg c6] at H
                have c6b0 : ((rd l0 x10_1) == 0) = false := beq_eq_false_iff_ne.mpr c6
                (try (obtain rfl := TB1_.out.symm.trans c6b0))
                have c6b1 : ((rd l0 x10_1) != 0) = true := bne_iff_ne.mpr c6
                (first | rw [c6b0] | (simp only [i64_w, i32_w]; rw [c6b0]) | skip)
                by_cases c9 : x10_1 = 9
                · rw [if_pos c9] at H
                  have c9b0 : (x10_1 == 9) = true := beq_iff_eq.mpr c9
                  have c9b1 : (x10_1 != 9) = false := bne_eq_false_iff_eq.mpr c9
                  clear c9
                  have H' := Aside0.mk H
                  clear H
                  go_wp2
                  go_meet
                  case rel => exact ⟨_, (((rd l0 x10_1) != 1)), (by first | rfl | (simp; done) | (simp [*]; done)), H', ⟨by have := HK1.out; first | omega | exact Nat.le_refl _⟩, by repeat (first | exact Drawn0.refl _ | apply Drawn0.step)⟩
                · rw [if_neg c9] at H
                  have c9b0 : (x10_1 == 9) = false := beq_eq_false_iff_ne.mpr c9
                  have c9b1 : (x10_1 != 9) = true := bne_iff_ne.mpr c9
                  have H' := Aside0.mk H
                  clear H
                  go_wp2
                  go_meet
                  case rel => exact ⟨_, (false), (by first | rfl | (simp; done) | (simp [*]; done)), H', ⟨by have := HK1.out; first | omega | exact Nat.le_refl _⟩, by repeat (first | exact Drawn0.refl _ | apply Drawn0.step)⟩
            case rest =>
              clear HC5
              try clear p1
              try clear q1
              try clear hx1
              try clear c2
              try clear c2b0
              try clear p2
              try clear c3
              try clear c3b0
              try clear c4
              try clear c4b0
              try clear c6
              try clear c6b0
              try clear c6b1
              try clear c7
              try clear c7b0
              try clear c8
              try clear c8b0
              try clear c8b1
              try clear c9
              try clear c9b0
              try clear c9b1
              try clear hx105_0
              try clear p105
              try clear q105
              obtain ⟨kq, x28_4, rfl, HA, HJ4, ⟨mc4, rfl⟩⟩ := hcut
              cases kq with
              | zero => exact absurd HA.out (by simp [codec_Uint_p.j1])
              | succ kj4 =>
                have H := HA.out
                clear HA
                simp only [codec_Uint_p.j1] at H
                by_cases c10 : x28_4 = true
                · subst c10
                  have H1 : (some (0, 0, 21)) = some (r1, r2, r3) := by rw [if_pos rfl] at H; exact H
                  clear H
                  have H := H1
                  clear H1
                  simp only [Option.some.injEq, Prod.mk.injEq] at H
                  obtain ⟨rfl, rfl, rfl⟩ := H
                  go_wp2
                  go_ret3
                  exact ⟨by first | rfl | (simp; done) | (simp [*]; done), by repeat (first | exact Drawn0.refl _ | apply Drawn0.step)⟩
                · replace c10 := Bool.eq_false_iff.mpr c10
                  subst c10
                  have H1 : (if 0 ≤ (wrap64 (7 * x10_1)) then (if (rd l0 x10_1) < 128 then (some (Go.bits .or .u64 x5_1 (shl .u64 (IntKind.u64.wrap (Go.bits .and .u8 (rd l0 x10_1) 127)) (wrap64 (7 * x10_1))), wrap64 (x10_1 + 1), 0)) else (codec_Uint_p.l0 kj4 (Go.bits .or .u64 x5_1 (shl .u64 (IntKind.u64.wrap (Go.bits .and .u8 (rd l0 x10_1) 127)) (wrap64 (7 * x10_1)))) l0 (l0.length : Int) (wrap64 (x10_1 + 1)))) else (none)) = some (r1, r2, r3) := by rw [if_neg (show ¬ (false = true) by decide)] at H; exact H
                  clear H
                  have H := H1
                  clear H1
                  obtain ⟨ji11, hji11⟩ : ∃ j_ : Int, (wrap64 (7 * x10_1)) = j_ := ⟨_, rfl⟩
                  replace H : (if 0 ≤ (ji11) then (if (rd l0 x10_1) < 128 then (some (Go.bits .or .u64 x5_1 (shl .u64 (IntKind.u64.wrap (Go.bits .and .u8 (rd l0 x10_1) 127)) (ji11)), wrap64 (x10_1 + 1), 0)) else (codec_Uint_p.l0 kj4 (Go.bits .or .u64 x5_1 (shl .u64 (IntKind.u64.wrap (Go.bits .and .u8 (rd l0 x10_1) 127)) (ji11))) l0 (l0.length : Int) (wrap64 (x10_1 + 1)))) else (none)) = some (r1, r2, r3) := by first | (rw [hji11] at H; exact H) | (simp only [hji11] at H ⊢; exact H)
                  have hji11w : (IntKind.i64.wrap (7 * x10_1)) = ji11 := (i64_w _).trans hji11
                  by_cases c12 : 0 ≤ (ji11)
                  · rw [if_pos c12] at H
                    have c12b0 := eq_true c12
                    have c12b1 : decide (0 ≤ (ji11)) = true := decide_eq_true c12
                    clear c12
                    obtain ⟨ji13, hji13⟩ : ∃ j_ : Int, (shl .u64 (IntKind.u64.wrap (Go.bits .and .u8 (rd l0 x10_1) 127)) (ji11)) = j_ := ⟨_, rfl⟩
                    replace H : (if (rd l0 x10_1) < 128 then (some (Go.bits .or .u64 x5_1 (ji13), wrap64 (x10_1 + 1), 0)) else (codec_Uint_p.l0 kj4 (Go.bits .or .u64 x5_1 (ji13)) l0 (l0.length : Int) (wrap64 (x10_1 + 1)))) = some (r1, r2, r3) := by first | (rw [hji13] at H; exact H) | (simp only [hji13] at H ⊢; exact H)
                    have hji13_ : (IntKind.u64.wrap ((IntKind.u64.wrap (Go.bits .and .u8 (rd l0 x10_1) 127)) * 2 ^ min (ji11).toNat 64)) = ji13 := hji13
                    have hji13z : (ji11) ≤ 64 → (IntKind.u64.wrap ((IntKind.u64.wrap (Go.bits .and .u8 (rd l0 x10_1) 127)) * 2 ^ (ji11).toNat)) = ji13 := shl_small hji13
                    by_cases c14 : (rd l0 x10_1) < 128
                    · rw [if_pos c14] at H
                      have c14b0 : decide ((rd l0 x10_1) < 128) = true := decide_eq_true c14
                      clear c14
                      simp only [Option.some.injEq, Prod.mk.injEq] at H
                      obtain ⟨rfl, rfl, rfl⟩ := H
                      go_wp2
                      go_ret3
                      exact ⟨by first | rfl | (simp; done) | (simp only [← hji11, ← hji13] <;> (first | rfl | simp)) | (simp [*]; done), by repeat (first | exact Drawn0.refl _ | apply Drawn0.step)⟩
                    · rw [if_neg c14] at H
                      have c14b0 : decide ((rd l0 x10_1) < 128) = false := decide_eq_false c14
                      clear c14
                      have H' := Aside0.mk H
                      clear H
                      go_wp2
                      go_roundg kj4
                      case measure => have := HK1.out; have := HJ4.out; omega
                      case rel => exact ⟨(Go.bits .or .u64 x5_1 (ji13)), (wrap64 (x10_1 + 1)), (by first | rfl | (simp; done) | (simp only [← hji13] <;> (first | rfl | simp)) | (simp [*]; done)), (by first | rfl | (simp; done) | (simp [*]; done)), H', ⟨by have := HK1.out; have := HJ4.out; omega⟩, by repeat (first | exact Drawn0.refl _ | apply Drawn0.step)⟩
                  · rw [if_neg c12] at H
                    exact absurd H (by simp)
          · rw [if_neg c4] at H
            exact absurd H (by simp)
        · rw [if_neg c3] at H
          exact absurd H (by simp)
      · rw [if_neg c2] at H
        have c2b0 : decide (x10_1 < (l0.length : Int)) = false := decide_eq_false c2
        clear c2
        simp only [Option.some.injEq, Prod.mk.injEq] at H
        obtain ⟨rfl, rfl, rfl⟩ := H
        go_wp2
        go_ret3
        exact ⟨by first | rfl | (simp; done) | (simp [*]; done), by repeat (first | exact Drawn0.refl _ | apply Drawn0.step)⟩
theorem codec_Uint_ev (l : List Int) (hl : Bytes l) (hm : l.length ≤ 140737488355328) (d : Nat) : ∀ (i a : Nat), i + d = l.length → i ≤ 9 → a < 128 ^ i → Ev (fun k => codec_Uint_p.l0 k (a : Int) l (l.length : Int) (i : Int)) (i3 (uintR (l.drop i) i a)) := by
  induction d with
  | zero =>
    intro i a hi h9 ha
    refine Ev.step (f := fun _ => some (0, 0, 20)) (fun k => ?_) (by rw [List.drop_of_length_le (by omega)]; exact Ev.now _)
    simp only [codec_Uint_p.l0]
    rw [if_neg (by omega)]
  | succ d ih =>
    intro i a hi h9 ha
    have hlt : i < l.length := by omega
    have hb := hl _ (List.getElem_mem hlt)
    have hrd : rd l (i : Int) = l[i] := by simp [rd, List.getD_eq_getElem?_getD, hlt]
    rw [List.drop_eq_getElem_cons hlt]
    obtain ⟨c, hc⟩ := Int.eq_ofNat_of_zero_le hb.1
    have hw : wrap64 (7 * (i : Int)) = 7 * (i : Int) := by unfold wrap64; omega
    have hw1 : wrap64 ((i : Int) + 1) = ((i + 1 : Nat) : Int) := by unfold wrap64; omega
    have hand : IntKind.u64.wrap (Go.bits .and .u8 (c : Int) 127) = ((c % 128 : Nat) : Int) := by
      rw [own_and127 _ ⟨by omega, by omega⟩]
      simp [IntKind.wrap, IntKind.bits, IntKind.signed]
      omega
    have bad : Ev (fun k => codec_Uint_p.j1 k (a : Int) (i : Int) (rd l (i : Int)) l (l.length : Int) (i : Int) true) (i3 (0, 0, 21)) := Ev.step (f := fun _ => some (0, 0, 21)) (fun k => by simp [codec_Uint_p.j1]) (Ev.now _)
    have good : (i ≤ 8 ∨ i = 9 ∧ c = 1) → Ev (fun k => codec_Uint_p.j1 k (a : Int) (i : Int) (rd l (i : Int)) l (l.length : Int) (i : Int) false) (i3 (if (l[i] : Int) < 128 then (a + (l[i] : Int).toNat % 128 * 128 ^ i, i + 1, 0) else uintR (l.drop (i + 1)) (i + 1) (a + (l[i] : Int).toNat % 128 * 128 ^ i))) := by
      intro h8
      rw [hrd, hc, Int.toNat_natCast]
      have hacc := acc_step a (c % 128) i ha (by omega) (by omega)
      by_cases h1 : (c : Int) < 128
      · rw [if_pos h1]
        refine Ev.step (f := fun _ => some (i3 (a + c % 128 * 128 ^ i, i + 1, 0))) (fun k => ?_) (Ev.now _)
        simp only [codec_Uint_p.j1]
        rw [if_neg (by decide), if_pos (by omega), if_pos h1, hand, hw, hacc.1, hw1]
        rfl
      · rw [if_neg h1]
        refine Ev.step (f := fun k => codec_Uint_p.l0 k ((a + c % 128 * 128 ^ i : Nat) : Int) l (l.length : Int) ((i + 1 : Nat) : Int)) (fun k => ?_) (ih (i + 1) _ (by omega) (by omega) (acc_lt a (c % 128) i ha (by omega)))
        simp only [codec_Uint_p.j1]
        rw [if_neg (by decide), if_pos (by omega), if_neg h1, hand, hw, hacc.1, hw1]
    simp only [uintR]
    by_cases hz : l[i] = 0 ∧ 0 < i ∨ i = 9 ∧ l[i] ≠ 1
    · rw [if_pos hz]
      refine Ev.step (fun k => ?_) bad
      simp only [codec_Uint_p.l0]
      rw [if_pos (by omega), if_pos (by omega), if_pos (by omega)]
      by_cases h0 : l[i] = 0
      · rw [hrd, if_pos h0]
        by_cases hi0 : (i : Int) > 0
        · rw [if_pos hi0]
        · exact absurd hz (by omega)
      · rw [hrd, if_neg h0]
        have h9' : i = 9 ∧ l[i] ≠ 1 := by omega
        rw [if_pos (by omega), bne_iff_ne.mpr h9'.2]
    · rw [if_neg hz]
      refine Ev.step (fun k => ?_) (good (by omega))
      simp only [codec_Uint_p.l0]
      rw [if_pos (by omega), if_pos (by omega), if_pos (by omega)]
      by_cases h0 : l[i] = 0
      · rw [hrd, if_pos h0, if_neg (by omega), if_neg (by omega)]
      · rw [hrd, if_neg h0]
        by_cases h9' : i = 9
        · rw [if_pos (by omega)]
          have h1 : l[i] = 1 := by omega
          rw [h1]
          rfl
        · rw [if_neg (by omega)]
def codec_Uint.f (l0 : List Int) : Option (Int × Int × Int) := if okB l0 = true ∧ l0.length ≤ 140737488355328 then some (uintL l0) else none
theorem codec_Uint.calls (A0 : Option Addr) (c0 : Nat) (l0 : List Int) (r1 : Int) (r2 : Int) (r3 : Int) (w : World) (hr0 : Kd.C (Kd.int .u8) w A0 l0.length l0) (hc0 : l0.length ≤ c0) (h : codec_Uint.f l0 = some (r1, r2, r3)) :
    Calls Tryd.prog 85 #[.slice A0 l0.length c0] w fun e w' => e = .returned (.tuple #[.int .u64 r1, .int .i64 r2, .int .i64 r3]) ∧ Drawn0 w w' := by
  unfold codec_Uint.f at h
  split at h
  · rename_i hh
    obtain ⟨k, hk⟩ := (codec_Uint_ev l0 (okB_iff.1 hh.1) hh.2 l0.length 0 0 (by omega) (by omega) (by decide)).rounds
    exact codec_Uint_p.calls k A0 c0 l0 r1 r2 r3 w hr0 hc0 (by rw [← h]; exact hk)
  · cases h
def codec_Text.f (l0 : List Int) (a1 : Int) : Option (ByteArray × Int × Int) := if okB l0 = true ∧ l0.length ≤ 140737488351232 ∧ -9223372036854775808 ≤ a1 ∧ a1 ≤ 9223372036854775807 then some (textL l0 a1) else none
set_option maxHeartbeats 1000000 in
set_option maxRecDepth 100000 in
theorem codec_Text.calls (A0 : Option Addr) (c0 : Nat) (l0 : List Int) (a1 : Int) (r1 : ByteArray) (r2 : Int) (r3 : Int) (w : World) (hr0 : Kd.C (Kd.int .u8) w A0 l0.length l0) (hc0 : l0.length ≤ c0) (h : codec_Text.f l0 a1 = some (r1, r2, r3)) :
    Calls Tryd.prog 86 #[.slice A0 l0.length c0, .int .i64 a1] w fun e w' => e = .returned (.tuple #[.string r1, .int .i64 r2, .int .i64 r3]) ∧ Drawn0 w w' := by
  unfold codec_Text.f at h
  split at h
  · rename_i hh
    obtain ⟨hb, hl, hm1, hm2⟩ := hh
    have h := Option.some.inj h
    have HR0 := Aside0.mk hr0
    have hs := uintN_spec l0 (okB_iff.1 hb)
    have hU : codec_Uint.f l0 = some (uintL l0) := by unfold codec_Uint.f; rw [if_pos ⟨hb, by omega⟩]
    obtain ⟨n, k, e, hN, s1, s2, s3⟩ : ∃ n k e, uintN l0 = (n, k, e) ∧ n < 18446744073709551616 ∧ k ≤ l0.length ∧ k ≤ 10 := ⟨_, _, _, rfl, hs⟩
    have hL : uintL l0 = ((n : Int), (k : Int), (e : Int)) := by unfold uintL i3; rw [hN]
    rw [hL] at hU
    have HU := Aside0.mk hU
    unfold textL at h
    rw [hN] at h
    simp only at h
    have hk : IntKind.u64.wrap (wrap64 ((l0.length : Int) - (k : Int))) = (l0.length : Int) - (k : Int) := by
      rw [show wrap64 ((l0.length : Int) - (k : Int)) = (l0.length : Int) - (k : Int) by unfold wrap64; omega]
      simp [IntKind.wrap, IntKind.bits, IntKind.signed]
      omega
    have HK := Aside0.mk hk
    clear hU hr0 hs hN hL hk
    by_cases he : e = 0
    · rw [if_neg (by simpa using he)] at h
      subst he
      by_cases hmost : a1 < 0
      · rw [if_pos (.inl hmost)] at h
        simp only [Prod.mk.injEq] at h
        obtain ⟨rfl, rfl, rfl⟩ := h
        have hd : decide (a1 < 0) = true := decide_eq_true hmost
        go_enter Tryd.func86, Tryd.ntmps86
        go_wp2_with fail
        refine (codec_Uint.calls A0 c0 l0 (n : Int) (k : Int) ((0 : Nat) : Int) w HR0.out hc0 HU.out).mono ?_
        rintro e w1 ⟨rfl, ⟨m1, rfl⟩⟩
        go_wp2
        go_ret3
        exact ⟨rfl, ⟨m1, rfl⟩⟩
      · have hge : 0 ≤ a1 := by omega
        have hd : decide (a1 < 0) = false := decide_eq_false hmost
        have hwa : IntKind.u64.wrap a1 = a1 := by simp [IntKind.wrap, IntKind.bits, IntKind.signed]; omega
        by_cases hbig : (n : Int) > a1
        · rw [if_pos (.inr hbig)] at h
          simp only [Prod.mk.injEq] at h
          obtain ⟨rfl, rfl, rfl⟩ := h
          have hd2 : decide (a1 < (n : Int)) = true := decide_eq_true hbig
          have hd3 : decide (IntKind.u64.wrap a1 < (n : Int)) = true := by rw [hwa]; exact hd2
          clear hwa
          go_enter Tryd.func86, Tryd.ntmps86
          go_wp2_with fail
          refine (codec_Uint.calls A0 c0 l0 (n : Int) (k : Int) ((0 : Nat) : Int) w HR0.out hc0 HU.out).mono ?_
          rintro e w1 ⟨rfl, ⟨m1, rfl⟩⟩
          go_wp2
          go_ret3
          exact ⟨rfl, ⟨m1, rfl⟩⟩
        · rw [if_neg (by omega)] at h
          have hd2 : decide (a1 < (n : Int)) = false := decide_eq_false (by omega)
          have hd3 : decide (IntKind.u64.wrap a1 < (n : Int)) = false := by rw [hwa]; exact hd2
          clear hwa
          by_cases hs : n > l0.length - k
          · rw [if_pos hs] at h
            simp only [Prod.mk.injEq] at h
            obtain ⟨rfl, rfl, rfl⟩ := h
            have hd4 : decide ((l0.length : Int) - (k : Int) < (n : Int)) = true := decide_eq_true (by omega)
            have hd5 : decide (IntKind.u64.wrap (wrap64 ((l0.length : Int) - (k : Int))) < (n : Int)) = true := by rw [HK.out]; exact hd4
            have hd6 : decide (IntKind.u64.wrap ((l0.length : Int) - (k : Int)) < (n : Int)) = true := by have := HK.out; rw [show wrap64 ((l0.length : Int) - (k : Int)) = (l0.length : Int) - (k : Int) by unfold wrap64; omega] at this; rw [this]; exact hd4
            go_enter Tryd.func86, Tryd.ntmps86
            go_wp2_with fail
            refine (codec_Uint.calls A0 c0 l0 (n : Int) (k : Int) ((0 : Nat) : Int) w HR0.out hc0 HU.out).mono ?_
            rintro e w1 ⟨rfl, ⟨m1, rfl⟩⟩
            go_wp2
            go_ret3
            exact ⟨rfl, ⟨m1, rfl⟩⟩
          · rw [if_neg hs] at h
            simp only [Prod.mk.injEq] at h
            obtain ⟨e1, e2, rfl⟩ := h
            have E1 := Aside0.mk e1
            have E2 := Aside0.mk e2
            clear e1 e2
            have hd4 : decide ((l0.length : Int) - (k : Int) < (n : Int)) = false := decide_eq_false (by omega)
            have hd5 : decide (IntKind.u64.wrap (wrap64 ((l0.length : Int) - (k : Int))) < (n : Int)) = false := by rw [HK.out]; exact hd4
            have hd6 : decide (IntKind.u64.wrap ((l0.length : Int) - (k : Int)) < (n : Int)) = false := by have := HK.out; rw [show wrap64 ((l0.length : Int) - (k : Int)) = (l0.length : Int) - (k : Int) by unfold wrap64; omega] at this; rw [this]; exact hd4
            obtain ⟨i012, hi012, _, hsz12, _⟩ := info_parts info5
            obtain ⟨A12, hcut12, hA12, hC12⟩ := print_mid_of (P := Tryd.prog) (Value.int .u8) (0 : Int) 22 5 .i64 .i64 Tryd.underlying22 hi012 hsz12 A0 c0 l0 (k : Int) ((k : Int) + (n : Int)) (by omega) (by omega) (by omega) hc0
            have HE : Aside0 (strOfNums ((l0.take ((k : Int) + (n : Int)).toNat).drop (k : Int).toNat) = r1) := ⟨by rw [show ((k : Int) + (n : Int)).toNat = k + n by omega, Int.toNat_natCast]; exact E1.out⟩
            generalize (l0.take ((k : Int) + (n : Int)).toNat).drop (k : Int).toNat = ys at hcut12 hA12 hC12 HE
            have hR12 := Kd.C_of_reads (h1 := fun _ => rfl) (hA12 _ (Kd.reads_of_C HR0.out))
            have HR12 := Aside0.mk hR12
            clear hA12 hC12 hi012 hsz12 hR12
            go_enter Tryd.func86, Tryd.ntmps86
            go_wp2_with fail
            refine (codec_Uint.calls A0 c0 l0 (n : Int) (k : Int) ((0 : Nat) : Int) w HR0.out hc0 HU.out).mono ?_
            rintro e w1 ⟨rfl, ⟨m1, rfl⟩⟩
            have hcv13 := Kd.C_string (P := Tryd.prog) (w := w.drewN m1) (A := A12) (c := (c0 - k)) Tryd.underlying22 Tryd.underlying5 Tryd.underlying9 HR12.out
            rw [HE.out] at hcv13
            go_wp2
            repeat (go_quiet (fail); try go_wp2)
            go_ret3
            exact ⟨by rw [← E2.out]; rfl, by repeat (first | exact Drawn0.refl _ | apply Drawn0.step)⟩
    · rw [if_pos (by simpa using he)] at h
      simp only [Prod.mk.injEq] at h
      obtain ⟨rfl, rfl, rfl⟩ := h
      have hd : ((e : Int) != 0) = true := by rw [bne_iff_ne]; omega
      go_enter Tryd.func86, Tryd.ntmps86
      go_wp2_with fail
      refine (codec_Uint.calls A0 c0 l0 (n : Int) (k : Int) (e : Int) w HR0.out hc0 HU.out).mono ?_
      rintro e' w1 ⟨rfl, ⟨m1, rfl⟩⟩
      go_wp2
      go_ret3
      exact ⟨rfl, ⟨m1, rfl⟩⟩
  · cases h
/-- A state of type 98 at block g of W; what its slices lead to came in by w0. -/
def IsS98 (w0 W : World) (g : Nat) (f0 : List (S30)) (f1 : Int) : Prop := ∃ A0 c0, W.heap[g]? = some (.cells #[.slice A0 f0.length c0, .int .i64 f1] 98 (0, 0)) ∧ w0.heap.size ≤ g ∧ Kd.C k30 w0 A0 f0.length f0
theorem IsS98.grown {w0 W : World} {g : Nat} {f0 : List (S30)} {f1 : Int} {W1 : World} {row : Option Nat} (h : IsS98 w0 W g f0 f1) (hw : W.grownBy W1 row) (hne : some g ≠ row) : IsS98 w0 W1 g f0 f1 := by
  obtain ⟨A0, c0, hb, hg, hr0⟩ := h
  exact ⟨A0, c0, blk_grown hb hw hne, hg, hr0⟩
theorem IsS98.kept {w0 W : World} {g : Nat} {f0 : List (S30)} {f1 : Int} {W1 : World} {S : Nat → Prop} (h : IsS98 w0 W g f0 f1) (hk : Kept W W1 S) (hne : ¬ S g) : IsS98 w0 W1 g f0 f1 := by
  obtain ⟨A0, c0, hb, hg, hr0⟩ := h
  exact ⟨A0, c0, blk_kept hb hk hne, hg, hr0⟩
theorem IsS98.below {w0 W : World} {g : Nat} {f0 : List (S30)} {f1 : Int} {W1 : World} (h : IsS98 w0 W g f0 f1) (hw : Below W.heap.size W W1) : IsS98 w0 W1 g f0 f1 := h.grown (grown_of_below hw none) (by simp)
theorem IsS98.alloc {w0 W : World} {g : Nat} {f0 : List (S30)} {f1 : Int} (h : IsS98 w0 W g f0 f1) (o : Obj) : IsS98 w0 (W.alloc o) g f0 f1 := h.below (below_alloc (Below.refl _ _) o)
theorem IsS98.drewN {w0 W : World} {g : Nat} {f0 : List (S30)} {f1 : Int} (h : IsS98 w0 W g f0 f1) (m : Nat) : IsS98 w0 (W.drewN m) g f0 f1 := h
theorem IsS98.drew {w0 W : World} {g : Nat} {f0 : List (S30)} {f1 : Int} (h : IsS98 w0 W g f0 f1) : IsS98 w0 W.drew g f0 f1 := h
theorem IsS98.apart {w0 W : World} {g : Nat} {f0 : List (S30)} {f1 : Int} {α : Type} {d : Kd α} {e : Nat} {base : Nat} {ok : Nat → Prop} {v : Value} {xs : List α} (h : IsS98 w0 W g f0 f1) (ho : d.R e W base ok v xs) (ht : ∀ q, q ∈ e :: d.E → q ≠ 98) : d.R e W base (fun k => ok k ∧ k ≠ g) v xs := by
  obtain ⟨A0, c0, hb, hg, hr0⟩ := h
  exact Kd.R_types ho hb ht
theorem IsS98.own_ne {w0 W : World} {g : Nat} {f0 : List (S30)} {f1 : Int} {α : Type} {d : Kd α} {e : Nat} {base : Nat} {ok : Nat → Prop} {v : Value} {xs : List α} (h : IsS98 w0 W g f0 f1) (ho : d.R e W base ok v xs) (ht : e ≠ 98) : some g ≠ v.ownBlock := by
  obtain ⟨A0, c0, hb, hg, hr0⟩ := h
  exact Kd.R_ne ho hb ht
theorem IsS98.far {w0 W : World} {g : Nat} {f0 : List (S30)} {f1 : Int} {p : Addr} (h : IsS98 w0 W g f0 f1) (hne : g ≠ p.block) (u : Value) : IsS98 w0 (W.setCell p u) g f0 f1 := by
  obtain ⟨A0, c0, hb, hg, hr0⟩ := h
  exact ⟨A0, c0, blk_far hb hne u, hg, hr0⟩
theorem IsS98.new (w0 W : World) (A0 : Option Addr) (c0 : Nat) (f0 : List (S30)) (f1 : Int) (hB : Below w0.heap.size w0 W) (hr0 : Kd.C k30 w0 A0 f0.length f0) : IsS98 w0 (W.alloc (.cells #[.slice A0 f0.length c0, .int .i64 f1] 98)) W.heap.size f0 f1 := ⟨A0, c0, by simpa using heap_alloc_new W _, hB.size, hr0⟩
def block_Block_key.f (s0_0 : List (S30)) (s0_1 : Int) : Option (ByteArray × Int) := if (s0_0.length : Int) = 0 then (some ((⟨#[]⟩ : ByteArray), s0_1)) else (if 0 ≤ (wrap64 ((s0_0.length : Int) - 1)) then (if (wrap64 ((s0_0.length : Int) - 1)) < (s0_0.length : Int) then (some ((rd_T30 s0_0 (wrap64 ((s0_0.length : Int) - 1))).f0, s0_1)) else (none)) else (none))
/-- A state of type 122 at block g of W; what its slices lead to came in by w0. -/
def IsS122 (w0 W : World) (g : Nat) (f0 : Int) (f1 : List Int) (f2 : List Int) (f3 : Int) (f4 : ByteArray) : Prop := ∃ A1 c1, ∃ A2 c2, W.heap[g]? = some (.cells #[.int .i64 f0, .slice A1 f1.length c1, .slice A2 f2.length c2, .int .i64 f3, .string f4] 122 (0, 0)) ∧ w0.heap.size ≤ g ∧ Kd.C (Kd.int .u8) w0 A1 f1.length f1 ∧ Kd.C (Kd.int .i64) w0 A2 f2.length f2
theorem IsS122.grown {w0 W : World} {g : Nat} {f0 : Int} {f1 : List Int} {f2 : List Int} {f3 : Int} {f4 : ByteArray} {W1 : World} {row : Option Nat} (h : IsS122 w0 W g f0 f1 f2 f3 f4) (hw : W.grownBy W1 row) (hne : some g ≠ row) : IsS122 w0 W1 g f0 f1 f2 f3 f4 := by
  obtain ⟨A1, c1, A2, c2, hb, hg, hr1, hr2⟩ := h
  exact ⟨A1, c1, A2, c2, blk_grown hb hw hne, hg, hr1, hr2⟩
theorem IsS122.kept {w0 W : World} {g : Nat} {f0 : Int} {f1 : List Int} {f2 : List Int} {f3 : Int} {f4 : ByteArray} {W1 : World} {S : Nat → Prop} (h : IsS122 w0 W g f0 f1 f2 f3 f4) (hk : Kept W W1 S) (hne : ¬ S g) : IsS122 w0 W1 g f0 f1 f2 f3 f4 := by
  obtain ⟨A1, c1, A2, c2, hb, hg, hr1, hr2⟩ := h
  exact ⟨A1, c1, A2, c2, blk_kept hb hk hne, hg, hr1, hr2⟩
theorem IsS122.below {w0 W : World} {g : Nat} {f0 : Int} {f1 : List Int} {f2 : List Int} {f3 : Int} {f4 : ByteArray} {W1 : World} (h : IsS122 w0 W g f0 f1 f2 f3 f4) (hw : Below W.heap.size W W1) : IsS122 w0 W1 g f0 f1 f2 f3 f4 := h.grown (grown_of_below hw none) (by simp)
theorem IsS122.alloc {w0 W : World} {g : Nat} {f0 : Int} {f1 : List Int} {f2 : List Int} {f3 : Int} {f4 : ByteArray} (h : IsS122 w0 W g f0 f1 f2 f3 f4) (o : Obj) : IsS122 w0 (W.alloc o) g f0 f1 f2 f3 f4 := h.below (below_alloc (Below.refl _ _) o)
theorem IsS122.drewN {w0 W : World} {g : Nat} {f0 : Int} {f1 : List Int} {f2 : List Int} {f3 : Int} {f4 : ByteArray} (h : IsS122 w0 W g f0 f1 f2 f3 f4) (m : Nat) : IsS122 w0 (W.drewN m) g f0 f1 f2 f3 f4 := h
theorem IsS122.drew {w0 W : World} {g : Nat} {f0 : Int} {f1 : List Int} {f2 : List Int} {f3 : Int} {f4 : ByteArray} (h : IsS122 w0 W g f0 f1 f2 f3 f4) : IsS122 w0 W.drew g f0 f1 f2 f3 f4 := h
theorem IsS122.apart {w0 W : World} {g : Nat} {f0 : Int} {f1 : List Int} {f2 : List Int} {f3 : Int} {f4 : ByteArray} {α : Type} {d : Kd α} {e : Nat} {base : Nat} {ok : Nat → Prop} {v : Value} {xs : List α} (h : IsS122 w0 W g f0 f1 f2 f3 f4) (ho : d.R e W base ok v xs) (ht : ∀ q, q ∈ e :: d.E → q ≠ 122) : d.R e W base (fun k => ok k ∧ k ≠ g) v xs := by
  obtain ⟨A1, c1, A2, c2, hb, hg, hr1, hr2⟩ := h
  exact Kd.R_types ho hb ht
theorem IsS122.own_ne {w0 W : World} {g : Nat} {f0 : Int} {f1 : List Int} {f2 : List Int} {f3 : Int} {f4 : ByteArray} {α : Type} {d : Kd α} {e : Nat} {base : Nat} {ok : Nat → Prop} {v : Value} {xs : List α} (h : IsS122 w0 W g f0 f1 f2 f3 f4) (ho : d.R e W base ok v xs) (ht : e ≠ 122) : some g ≠ v.ownBlock := by
  obtain ⟨A1, c1, A2, c2, hb, hg, hr1, hr2⟩ := h
  exact Kd.R_ne ho hb ht
theorem IsS122.far {w0 W : World} {g : Nat} {f0 : Int} {f1 : List Int} {f2 : List Int} {f3 : Int} {f4 : ByteArray} {p : Addr} (h : IsS122 w0 W g f0 f1 f2 f3 f4) (hne : g ≠ p.block) (u : Value) : IsS122 w0 (W.setCell p u) g f0 f1 f2 f3 f4 := by
  obtain ⟨A1, c1, A2, c2, hb, hg, hr1, hr2⟩ := h
  exact ⟨A1, c1, A2, c2, blk_far hb hne u, hg, hr1, hr2⟩
theorem IsS122.new (w0 W : World) (A1 : Option Addr) (c1 : Nat) (A2 : Option Addr) (c2 : Nat) (f0 : Int) (f1 : List Int) (f2 : List Int) (f3 : Int) (f4 : ByteArray) (hB : Below w0.heap.size w0 W) (hr1 : Kd.C (Kd.int .u8) w0 A1 f1.length f1) (hr2 : Kd.C (Kd.int .i64) w0 A2 f2.length f2) : IsS122 w0 (W.alloc (.cells #[.int .i64 f0, .slice A1 f1.length c1, .slice A2 f2.length c2, .int .i64 f3, .string f4] 122)) W.heap.size f0 f1 f2 f3 f4 := ⟨A1, c1, A2, c2, by simpa using heap_alloc_new W _, hB.size, hr1, hr2⟩
def block_NewMaker.f (a0 : Int) : Option (Int × List Int × List Int × Int × ByteArray) := some (mx a0 1, ([] : List Int), ([] : List Int), 0, (⟨#[]⟩ : ByteArray))
def ikey_Check.f (a0 : ByteArray) : Option (Int) := if a0.toList = ([] : List UInt8) then (some 10) else (if (a0.size : Int) > 64 then (some 11) else (some 0))
set_option maxHeartbeats 8000000 in
set_option maxRecDepth 100000 in
theorem ikey_Check.calls (a0 : ByteArray) (r : Int) (w : World) (h : ikey_Check.f a0 = some r) :
    Calls Tryd.prog 90 #[.string a0] w fun e w' => e = .returned (.int .i64 r) ∧ Drawn0 w w' := by
  have H : (if a0.toList = ([] : List UInt8) then (some 10) else (if (a0.size : Int) > 64 then (some 11) else (some 0))) = some r := h
  clear h
  by_cases c2 : a0.toList = ([] : List UInt8)
  · rw [if_pos c2] at H
    have c2b0 : (a0.toList == ([] : List UInt8)) = true := beq_iff_eq.mpr c2
    have c2b1 : (a0.toList != ([] : List UInt8)) = false := bne_eq_false_iff_eq.mpr c2
    clear c2
    obtain rfl := Option.some.inj H
    go_enter Tryd.func90, Tryd.ntmps90
    go_wp2
    go_ret
    exact ⟨by first | rfl | (simp; done) | (simp [*]; done), by repeat (first | exact Drawn0.refl _ | apply Drawn0.step)⟩
  · rw [if_neg c2] at H
    have c2b0 : (a0.toList == ([] : List UInt8)) = false := beq_eq_false_iff_ne.mpr c2
    have c2b1 : (a0.toList != ([] : List UInt8)) = true := bne_iff_ne.mpr c2
    by_cases c3 : (a0.size : Int) > 64
    · rw [if_pos c3] at H
      have c3b0 : decide (64 < (a0.size : Int)) = true := decide_eq_true c3
      have c3b1 : decide (64 < a0.size) = true := decide_eq_true (by omega)
      clear c3
      obtain rfl := Option.some.inj H
      go_enter Tryd.func90, Tryd.ntmps90
      go_wp2
      go_ret
      exact ⟨by first | rfl | (simp; done) | (simp [*]; done), by repeat (first | exact Drawn0.refl _ | apply Drawn0.step)⟩
    · rw [if_neg c3] at H
      have c3b0 : decide (64 < (a0.size : Int)) = false := decide_eq_false c3
      have c3b1 : decide (64 < a0.size) = false := decide_eq_false (by omega)
      clear c3
      obtain rfl := Option.some.inj H
      go_enter Tryd.func90, Tryd.ntmps90
      go_wp2
      go_ret
      exact ⟨by first | rfl | (simp; done) | (simp [*]; done), by repeat (first | exact Drawn0.refl _ | apply Drawn0.step)⟩
end Go.Proofs.YtaonjmkfbfhanaaDoor.QBo
namespace Go.Proofs.YtaonjmkfbfhanaaDoor.Bk
open Go.RowKit Go.Proofs.YtaonjmkfbfhanaaDoorW.PrintWords Go.Proofs.YtaonjmkfbfhanaaDoor.Own Go.Proofs.YtaonjmkfbfhanaaDoor.G Go.Proofs.YtaonjmkfbfhanaaDoor.Wk Go.Proofs.YtaonjmkfbfhanaaDoor.QBo
set_option linter.unusedVariables false
theorem infoU : (Tryd.prog.info? 5).map (fun i => (i.zero, i.size, i.bytes)) = some (some (.int .u8 0), 1, 1) := by kernel_rfl
def ev (x : En) : Value := .agg #[.string x.f0, .int .u64 x.f1, .bool x.f2, .string x.f3]
/-- What 'entry' answers. -/
def EntPost (w : World) (r : Option (En × Nat)) (e : Ending) (w' : World) : Prop :=
  (match r with
  | none => ∃ (x : En) (k : Int), e = .returned (.tuple #[ev x, .int .i64 k, .bool false])
  | some (x, k) => e = .returned (.tuple #[ev x, .int .i64 (k : Int), .bool true])) ∧ Below w.heap.size w w'
theorem below_at {w W : World} (h : Below w.heap.size w W) {g : Nat} (hg : w.heap.size ≤ g) (j : Nat) (v : Value) : Below w.heap.size w (W.setCell ⟨g, j, none⟩ v) := h.setCell (p := ⟨g, j, none⟩) hg v
set_option maxHeartbeats 8000000 in
set_option maxRecDepth 100000 in
theorem entry_calls {w : World} {A : Option Addr} {m c : Nat} {l : List Int} {s : ByteArray} (h : Rd (Kd.int .u8) w A m c l) (hb : Bytes l) (hl : l.length ≤ 2147483647) (hs : s.size ≤ 2147483647) :
    Calls Tryd.prog 71 #[.slice A m c, .string s] w (EntPost w (entryL l s)) := by
  have hm := h.1
  subst hm
  have HR := Aside0.mk h
  have HB := Aside0.mk hb
  obtain ⟨r, hr⟩ : ∃ r, r = numsR 3 l 0 [] := ⟨_, rfl⟩
  have HQ := Aside0.mk hr
  have HBW : Aside0 (Below w.heap.size w ((w.alloc (.cells #[.string (⟨#[]⟩ : ByteArray), .int .u64 0, .bool false, .string (⟨#[]⟩ : ByteArray)] 30)).alloc (.cells #[.int .u64 0, .int .u64 0, .int .u64 0] 155))) := ⟨below_alloc (below_alloc (Below.refl _ _) _) _⟩
  have HK4 : Aside0 (((w.alloc (.cells #[.string (⟨#[]⟩ : ByteArray), .int .u64 0, .bool false, .string (⟨#[]⟩ : ByteArray)] 30)).alloc (.cells #[.int .u64 0, .int .u64 0, .int .u64 0] 155)).heap[w.heap.size]? = some (.cells #[.string (⟨#[]⟩ : ByteArray), .int .u64 0, .bool false, .string (⟨#[]⟩ : ByteArray)] 30 (0, 0))) := ⟨blk_alloc (heap_alloc_new w _) _⟩
  have HK8 : Aside0 (((w.alloc (.cells #[.string (⟨#[]⟩ : ByteArray), .int .u64 0, .bool false, .string (⟨#[]⟩ : ByteArray)] 30)).alloc (.cells #[.int .u64 0, .int .u64 0, .int .u64 0] 155)).heap[w.heap.size + 1]? = some (.cells #[.int .u64 0, .int .u64 0, .int .u64 0] 155 (0, 0))) := ⟨by have := heap_alloc_new (w.alloc (.cells #[.string (⟨#[]⟩ : ByteArray), .int .u64 0, .bool false, .string (⟨#[]⟩ : ByteArray)] 30)) (.cells #[.int .u64 0, .int .u64 0, .int .u64 0] 155); simpa using this⟩
  clear h hb hr
  go_enter Tryd.func71, Tryd.ntmps71
  go_wp2_with fail
  go_loopw [7, 18] (fun va vi wr => ∃ i a n0 n1 n2 : Nat, va = .int .i64 (a : Int) ∧ vi = .int .i64 (i : Int) ∧ i ≤ 3 ∧ a ≤ l.length ∧ n0 < 18446744073709551616 ∧ n1 < 18446744073709551616 ∧ n2 < 18446744073709551616 ∧ Aside0 (numsR (3 - i) l a ([n0, n1, n2].take i) = r) ∧ Aside0 (Below w.heap.size w wr) ∧ Aside0 (wr.heap[w.heap.size]? = some (.cells #[.string (⟨#[]⟩ : ByteArray), .int .u64 0, .bool false, .string (⟨#[]⟩ : ByteArray)] 30 (0, 0))) ∧ Aside0 (wr.heap[w.heap.size + 1]? = some (.cells #[.int .u64 (n0 : Int), .int .u64 (n1 : Int), .int .u64 (n2 : Int)] 155 (0, 0)))) (fun _ vi _ => 3 - (intOf vi).toNat)
  case atStart => exact ⟨0, 0, 0, 0, 0, rfl, rfl, by omega, by omega, by omega, by omega, by omega, ⟨HQ.out.symm⟩, HBW, HK4, HK8⟩
  case round =>
    clear HBW HK4 HK8
    obtain ⟨i, a, n0, n1, n2, rfl, rfl, hi, ha, hn0, hn1, hn2, HP, HBW, HK4, HK8⟩ := hrel
    have hcase : i = 0 ∨ i = 1 ∨ i = 2 ∨ i = 3 := by omega
    have hf4 : ∀ j, wr.frozen? ⟨w.heap.size, j, none⟩ = false := fun j => blk_frozen HK4.out j
    have hf4_0 := hf4 0
    have hf4_1 := hf4 1
    have hf4_2 := hf4 2
    have hf4_3 := hf4 3
    have hf8_0 := blk_frozen HK8.out 0
    have hf8_1 := blk_frozen HK8.out 1
    have hf8_2 := blk_frozen HK8.out 2
    clear hf4
    rcases hcase with rfl | rfl | rfl | rfl
    · skip
      have hs' := uintN_spec (l.drop a) (fun y hy => HB.out y (List.mem_of_mem_drop hy))
      obtain ⟨x, k, e, hN, q1, q2, q3⟩ : ∃ x k e, uintN (l.drop a) = (x, k, e) ∧ x < 18446744073709551616 ∧ k ≤ (l.drop a).length ∧ k ≤ 10 := ⟨_, _, _, rfl, hs'⟩
      rw [List.length_drop] at q2
      have HU : Aside0 (codec_Uint.f (l.drop a) = some ((x : Int), (k : Int), (e : Int))) := ⟨by unfold codec_Uint.f uintL i3; rw [if_pos ⟨okB_iff.2 (fun y hy => HB.out y (List.mem_of_mem_drop hy)), by rw [List.length_drop]; omega⟩, hN]⟩
      obtain ⟨A', hfrom, hfr⟩ := Rd.from (P := Tryd.prog) (t := 22) (Kd.int .u8) Tryd.underlying22 infoU .i64 A l.length c a ha HR.out.2.1
      have HRF := Aside0.mk ((hfr w l HR.out).step HBW.out)
      obtain ⟨d, hd⟩ : ∃ d, l.length - a = d := ⟨_, rfl⟩
      rw [hd] at hfrom HRF
      have hstep := HP.out
      rw [show 3 - 0 = 2 + 1 from rfl, numsR_step, hN] at hstep
      simp only at hstep
      clear hs' hN hfr hd
      by_cases he : e = 0
      · have d1 : ((e : Int) != 0) = false := by rw [bne_eq_false_iff_eq]; omega
        rw [if_neg (by omega)] at hstep
        have HS := Aside0.mk hstep
        clear hstep he
        go_wp2_with fail
        obtain ⟨hrl, hrc, hrC⟩ := HRF.out
        subst hrl
        refine (codec_Uint.calls A' (c - a) (l.drop a) (x : Int) (k : Int) (e : Int) _ hrC hrc HU.out).mono ?_
        rintro e' W1 ⟨rfl, hD⟩
        have HB1 := Aside0.mk (below_step HBW.out hD.below)
        have HK4b := Aside0.mk ((hD.below.block _ (blk_lt HK4.out)).trans HK4.out)
        have HK8b := Aside0.mk ((hD.below.block _ (blk_lt HK8.out)).trans HK8.out)
        have hf8b := blk_frozen HK8b.out 0
        have hc8b : W1.cell? ⟨w.heap.size + 1, 0, none⟩ = some (.int .u64 (n0 : Int)) := by rw [blk_cell HK8b.out]; rfl
        clear hD hrc hrC
        go_wp2_with fail
        go_roundw
        case rel => exact ⟨1, a + k, x, n1, n2, by go_num, by first | rfl | go_num, by omega, by omega, by omega, by omega, by omega, ⟨by rw [← HS.out]; rfl⟩, ⟨HB1.out.setCell (p := ⟨w.heap.size + 1, 0, none⟩) (by simp) _⟩, ⟨blk_far HK4b.out (by simp) _⟩, ⟨blk_put HK8b.out 0 _ rfl⟩⟩
        case measure => simp [intOf]
      · have d1 : ((e : Int) != 0) = true := by rw [bne_iff_ne]; omega
        rw [if_pos he] at hstep
        have HE : Aside0 (entryL l s = none) := ⟨by unfold entryL; rw [← HQ.out, ← hstep]⟩
        clear hstep he
        go_wp2_with fail
        obtain ⟨hrl, hrc, hrC⟩ := HRF.out
        subst hrl
        refine (codec_Uint.calls A' (c - a) (l.drop a) (x : Int) (k : Int) (e : Int) _ hrC hrc HU.out).mono ?_
        rintro e' W1 ⟨rfl, hD⟩
        have HB1 := Aside0.mk (below_step HBW.out hD.below)
        have HK4b := Aside0.mk ((hD.below.block _ (blk_lt HK4.out)).trans HK4.out)
        have g0 := blk_frozen HK4b.out 0
        have g1 := blk_frozen HK4b.out 1
        have g2 := blk_frozen HK4b.out 2
        have g3 := blk_frozen HK4b.out 3
        have c0 : W1.cell? ⟨w.heap.size, 0, none⟩ = some (.string (⟨#[]⟩ : ByteArray)) := by rw [blk_cell HK4b.out]; rfl
        have c1 : W1.cell? ⟨w.heap.size, 1, none⟩ = some (.int .u64 0) := by rw [blk_cell HK4b.out]; rfl
        have c2 : W1.cell? ⟨w.heap.size, 2, none⟩ = some (.bool false) := by rw [blk_cell HK4b.out]; rfl
        have c3 : W1.cell? ⟨w.heap.size, 3, none⟩ = some (.string (⟨#[]⟩ : ByteArray)) := by rw [blk_cell HK4b.out]; rfl
        clear hD hrc hrC
        go_wp2_with fail
        refine bodyPost_ret (results_ctt rfl _ _ w.heap.size 30 #[.string (⟨#[]⟩ : ByteArray), .int .u64 0, .bool false, .string (⟨#[]⟩ : ByteArray)] (0, 0) _ rfl (by refine blk_put (cs := #[.string (⟨#[]⟩ : ByteArray), .int .u64 0, .bool false, .string (⟨#[]⟩ : ByteArray)]) ?_ 3 _ rfl; refine blk_put (cs := #[.string (⟨#[]⟩ : ByteArray), .int .u64 0, .bool false, .string (⟨#[]⟩ : ByteArray)]) ?_ 2 _ rfl; refine blk_put (cs := #[.string (⟨#[]⟩ : ByteArray), .int .u64 0, .bool false, .string (⟨#[]⟩ : ByteArray)]) ?_ 1 _ rfl; refine blk_put (cs := #[.string (⟨#[]⟩ : ByteArray), .int .u64 0, .bool false, .string (⟨#[]⟩ : ByteArray)]) ?_ 0 _ rfl; exact HK4b.out) Tryd.underlying30 rfl (by kernel_rfl)) rfl ?_
        rw [HE.out]
        exact ⟨⟨⟨(⟨#[]⟩ : ByteArray), 0, false, (⟨#[]⟩ : ByteArray)⟩, 0, rfl⟩, by repeat (first | exact HB1.out | refine below_at ?_ (Nat.le_refl _) _ _)⟩
    · skip
      have hs' := uintN_spec (l.drop a) (fun y hy => HB.out y (List.mem_of_mem_drop hy))
      obtain ⟨x, k, e, hN, q1, q2, q3⟩ : ∃ x k e, uintN (l.drop a) = (x, k, e) ∧ x < 18446744073709551616 ∧ k ≤ (l.drop a).length ∧ k ≤ 10 := ⟨_, _, _, rfl, hs'⟩
      rw [List.length_drop] at q2
      have HU : Aside0 (codec_Uint.f (l.drop a) = some ((x : Int), (k : Int), (e : Int))) := ⟨by unfold codec_Uint.f uintL i3; rw [if_pos ⟨okB_iff.2 (fun y hy => HB.out y (List.mem_of_mem_drop hy)), by rw [List.length_drop]; omega⟩, hN]⟩
      obtain ⟨A', hfrom, hfr⟩ := Rd.from (P := Tryd.prog) (t := 22) (Kd.int .u8) Tryd.underlying22 infoU .i64 A l.length c a ha HR.out.2.1
      have HRF := Aside0.mk ((hfr w l HR.out).step HBW.out)
      obtain ⟨d, hd⟩ : ∃ d, l.length - a = d := ⟨_, rfl⟩
      rw [hd] at hfrom HRF
      have hstep := HP.out
      rw [show 3 - 1 = 1 + 1 from rfl, numsR_step, hN] at hstep
      simp only at hstep
      clear hs' hN hfr hd
      by_cases he : e = 0
      · have d1 : ((e : Int) != 0) = false := by rw [bne_eq_false_iff_eq]; omega
        rw [if_neg (by omega)] at hstep
        have HS := Aside0.mk hstep
        clear hstep he
        go_wp2_with fail
        obtain ⟨hrl, hrc, hrC⟩ := HRF.out
        subst hrl
        refine (codec_Uint.calls A' (c - a) (l.drop a) (x : Int) (k : Int) (e : Int) _ hrC hrc HU.out).mono ?_
        rintro e' W1 ⟨rfl, hD⟩
        have HB1 := Aside0.mk (below_step HBW.out hD.below)
        have HK4b := Aside0.mk ((hD.below.block _ (blk_lt HK4.out)).trans HK4.out)
        have HK8b := Aside0.mk ((hD.below.block _ (blk_lt HK8.out)).trans HK8.out)
        have hf8b := blk_frozen HK8b.out 1
        have hc8b : W1.cell? ⟨w.heap.size + 1, 1, none⟩ = some (.int .u64 (n1 : Int)) := by rw [blk_cell HK8b.out]; rfl
        clear hD hrc hrC
        go_wp2_with fail
        go_roundw
        case rel => exact ⟨2, a + k, n0, x, n2, by go_num, by first | rfl | go_num, by omega, by omega, by omega, by omega, by omega, ⟨by rw [← HS.out]; rfl⟩, ⟨HB1.out.setCell (p := ⟨w.heap.size + 1, 1, none⟩) (by simp) _⟩, ⟨blk_far HK4b.out (by simp) _⟩, ⟨blk_put HK8b.out 1 _ rfl⟩⟩
        case measure => simp [intOf]
      · have d1 : ((e : Int) != 0) = true := by rw [bne_iff_ne]; omega
        rw [if_pos he] at hstep
        have HE : Aside0 (entryL l s = none) := ⟨by unfold entryL; rw [← HQ.out, ← hstep]⟩
        clear hstep he
        go_wp2_with fail
        obtain ⟨hrl, hrc, hrC⟩ := HRF.out
        subst hrl
        refine (codec_Uint.calls A' (c - a) (l.drop a) (x : Int) (k : Int) (e : Int) _ hrC hrc HU.out).mono ?_
        rintro e' W1 ⟨rfl, hD⟩
        have HB1 := Aside0.mk (below_step HBW.out hD.below)
        have HK4b := Aside0.mk ((hD.below.block _ (blk_lt HK4.out)).trans HK4.out)
        have g0 := blk_frozen HK4b.out 0
        have g1 := blk_frozen HK4b.out 1
        have g2 := blk_frozen HK4b.out 2
        have g3 := blk_frozen HK4b.out 3
        have c0 : W1.cell? ⟨w.heap.size, 0, none⟩ = some (.string (⟨#[]⟩ : ByteArray)) := by rw [blk_cell HK4b.out]; rfl
        have c1 : W1.cell? ⟨w.heap.size, 1, none⟩ = some (.int .u64 0) := by rw [blk_cell HK4b.out]; rfl
        have c2 : W1.cell? ⟨w.heap.size, 2, none⟩ = some (.bool false) := by rw [blk_cell HK4b.out]; rfl
        have c3 : W1.cell? ⟨w.heap.size, 3, none⟩ = some (.string (⟨#[]⟩ : ByteArray)) := by rw [blk_cell HK4b.out]; rfl
        clear hD hrc hrC
        go_wp2_with fail
        refine bodyPost_ret (results_ctt rfl _ _ w.heap.size 30 #[.string (⟨#[]⟩ : ByteArray), .int .u64 0, .bool false, .string (⟨#[]⟩ : ByteArray)] (0, 0) _ rfl (by refine blk_put (cs := #[.string (⟨#[]⟩ : ByteArray), .int .u64 0, .bool false, .string (⟨#[]⟩ : ByteArray)]) ?_ 3 _ rfl; refine blk_put (cs := #[.string (⟨#[]⟩ : ByteArray), .int .u64 0, .bool false, .string (⟨#[]⟩ : ByteArray)]) ?_ 2 _ rfl; refine blk_put (cs := #[.string (⟨#[]⟩ : ByteArray), .int .u64 0, .bool false, .string (⟨#[]⟩ : ByteArray)]) ?_ 1 _ rfl; refine blk_put (cs := #[.string (⟨#[]⟩ : ByteArray), .int .u64 0, .bool false, .string (⟨#[]⟩ : ByteArray)]) ?_ 0 _ rfl; exact HK4b.out) Tryd.underlying30 rfl (by kernel_rfl)) rfl ?_
        rw [HE.out]
        exact ⟨⟨⟨(⟨#[]⟩ : ByteArray), 0, false, (⟨#[]⟩ : ByteArray)⟩, 0, rfl⟩, by repeat (first | exact HB1.out | refine below_at ?_ (Nat.le_refl _) _ _)⟩
    · skip
      have hs' := uintN_spec (l.drop a) (fun y hy => HB.out y (List.mem_of_mem_drop hy))
      obtain ⟨x, k, e, hN, q1, q2, q3⟩ : ∃ x k e, uintN (l.drop a) = (x, k, e) ∧ x < 18446744073709551616 ∧ k ≤ (l.drop a).length ∧ k ≤ 10 := ⟨_, _, _, rfl, hs'⟩
      rw [List.length_drop] at q2
      have HU : Aside0 (codec_Uint.f (l.drop a) = some ((x : Int), (k : Int), (e : Int))) := ⟨by unfold codec_Uint.f uintL i3; rw [if_pos ⟨okB_iff.2 (fun y hy => HB.out y (List.mem_of_mem_drop hy)), by rw [List.length_drop]; omega⟩, hN]⟩
      obtain ⟨A', hfrom, hfr⟩ := Rd.from (P := Tryd.prog) (t := 22) (Kd.int .u8) Tryd.underlying22 infoU .i64 A l.length c a ha HR.out.2.1
      have HRF := Aside0.mk ((hfr w l HR.out).step HBW.out)
      obtain ⟨d, hd⟩ : ∃ d, l.length - a = d := ⟨_, rfl⟩
      rw [hd] at hfrom HRF
      have hstep := HP.out
      rw [show 3 - 2 = 0 + 1 from rfl, numsR_step, hN] at hstep
      simp only at hstep
      clear hs' hN hfr hd
      by_cases he : e = 0
      · have d1 : ((e : Int) != 0) = false := by rw [bne_eq_false_iff_eq]; omega
        rw [if_neg (by omega)] at hstep
        have HS := Aside0.mk hstep
        clear hstep he
        go_wp2_with fail
        obtain ⟨hrl, hrc, hrC⟩ := HRF.out
        subst hrl
        refine (codec_Uint.calls A' (c - a) (l.drop a) (x : Int) (k : Int) (e : Int) _ hrC hrc HU.out).mono ?_
        rintro e' W1 ⟨rfl, hD⟩
        have HB1 := Aside0.mk (below_step HBW.out hD.below)
        have HK4b := Aside0.mk ((hD.below.block _ (blk_lt HK4.out)).trans HK4.out)
        have HK8b := Aside0.mk ((hD.below.block _ (blk_lt HK8.out)).trans HK8.out)
        have hf8b := blk_frozen HK8b.out 2
        have hc8b : W1.cell? ⟨w.heap.size + 1, 2, none⟩ = some (.int .u64 (n2 : Int)) := by rw [blk_cell HK8b.out]; rfl
        clear hD hrc hrC
        go_wp2_with fail
        go_roundw
        case rel => exact ⟨3, a + k, n0, n1, x, by go_num, by first | rfl | go_num, by omega, by omega, by omega, by omega, by omega, ⟨by rw [← HS.out]; rfl⟩, ⟨HB1.out.setCell (p := ⟨w.heap.size + 1, 2, none⟩) (by simp) _⟩, ⟨blk_far HK4b.out (by simp) _⟩, ⟨blk_put HK8b.out 2 _ rfl⟩⟩
        case measure => simp [intOf]
      · have d1 : ((e : Int) != 0) = true := by rw [bne_iff_ne]; omega
        rw [if_pos he] at hstep
        have HE : Aside0 (entryL l s = none) := ⟨by unfold entryL; rw [← HQ.out, ← hstep]⟩
        clear hstep he
        go_wp2_with fail
        obtain ⟨hrl, hrc, hrC⟩ := HRF.out
        subst hrl
        refine (codec_Uint.calls A' (c - a) (l.drop a) (x : Int) (k : Int) (e : Int) _ hrC hrc HU.out).mono ?_
        rintro e' W1 ⟨rfl, hD⟩
        have HB1 := Aside0.mk (below_step HBW.out hD.below)
        have HK4b := Aside0.mk ((hD.below.block _ (blk_lt HK4.out)).trans HK4.out)
        have g0 := blk_frozen HK4b.out 0
        have g1 := blk_frozen HK4b.out 1
        have g2 := blk_frozen HK4b.out 2
        have g3 := blk_frozen HK4b.out 3
        have c0 : W1.cell? ⟨w.heap.size, 0, none⟩ = some (.string (⟨#[]⟩ : ByteArray)) := by rw [blk_cell HK4b.out]; rfl
        have c1 : W1.cell? ⟨w.heap.size, 1, none⟩ = some (.int .u64 0) := by rw [blk_cell HK4b.out]; rfl
        have c2 : W1.cell? ⟨w.heap.size, 2, none⟩ = some (.bool false) := by rw [blk_cell HK4b.out]; rfl
        have c3 : W1.cell? ⟨w.heap.size, 3, none⟩ = some (.string (⟨#[]⟩ : ByteArray)) := by rw [blk_cell HK4b.out]; rfl
        clear hD hrc hrC
        go_wp2_with fail
        refine bodyPost_ret (results_ctt rfl _ _ w.heap.size 30 #[.string (⟨#[]⟩ : ByteArray), .int .u64 0, .bool false, .string (⟨#[]⟩ : ByteArray)] (0, 0) _ rfl (by refine blk_put (cs := #[.string (⟨#[]⟩ : ByteArray), .int .u64 0, .bool false, .string (⟨#[]⟩ : ByteArray)]) ?_ 3 _ rfl; refine blk_put (cs := #[.string (⟨#[]⟩ : ByteArray), .int .u64 0, .bool false, .string (⟨#[]⟩ : ByteArray)]) ?_ 2 _ rfl; refine blk_put (cs := #[.string (⟨#[]⟩ : ByteArray), .int .u64 0, .bool false, .string (⟨#[]⟩ : ByteArray)]) ?_ 1 _ rfl; refine blk_put (cs := #[.string (⟨#[]⟩ : ByteArray), .int .u64 0, .bool false, .string (⟨#[]⟩ : ByteArray)]) ?_ 0 _ rfl; exact HK4b.out) Tryd.underlying30 rfl (by kernel_rfl)) rfl ?_
        rw [HE.out]
        exact ⟨⟨⟨(⟨#[]⟩ : ByteArray), 0, false, (⟨#[]⟩ : ByteArray)⟩, 0, rfl⟩, by repeat (first | exact HB1.out | refine below_at ?_ (Nat.le_refl _) _ _)⟩
    · skip
      obtain ⟨d, hd⟩ : ∃ d, l.length - a = d := ⟨_, rfl⟩
      have ed : (l.length : Int) - (a : Int) = (d : Int) := by omega
      have hp := HP.out
      rw [show 3 - 3 = 0 from rfl, show numsR 0 l a ([n0, n1, n2].take 3) = some ([n0, n1, n2], a) from rfl] at hp
      have HX : Aside0 (entryL l s = if n0 > s.size ∨ n1 > d then none else if n2 % 2 = 1 then some (⟨s.extract 0 n0 ++ strOfNums ((l.take (a + n1)).drop a), ((n2 / 2 : Nat) : Int), true, (⟨#[]⟩ : ByteArray)⟩, a + n1) else if (textL (l.drop (a + n1)) 512).2.2 ≠ 0 then none else some (⟨s.extract 0 n0 ++ strOfNums ((l.take (a + n1)).drop a), ((n2 / 2 : Nat) : Int), false, (textL (l.drop (a + n1)) 512).1⟩, a + n1 + (textL (l.drop (a + n1)) 512).2.1.toNat)) := ⟨by unfold entryL; rw [← HQ.out, ← hp, ← hd]; rfl⟩
      have w1 : IntKind.u64.wrap (s.size : Int) = (s.size : Int) := u64_nat (by omega)
      have w2 : IntKind.u64.wrap (d : Int) = (d : Int) := u64_nat (by omega)
      have c8_0 : wr.cell? ⟨w.heap.size + 1, 0, none⟩ = some (.int .u64 (n0 : Int)) := by rw [blk_cell HK8.out]; rfl
      have c8_1 : wr.cell? ⟨w.heap.size + 1, 1, none⟩ = some (.int .u64 (n1 : Int)) := by rw [blk_cell HK8.out]; rfl
      have c8_2 : wr.cell? ⟨w.heap.size + 1, 2, none⟩ = some (.int .u64 (n2 : Int)) := by rw [blk_cell HK8.out]; rfl
      have c0 : wr.cell? ⟨w.heap.size, 0, none⟩ = some (.string (⟨#[]⟩ : ByteArray)) := by rw [blk_cell HK4.out]; rfl
      have c1 : wr.cell? ⟨w.heap.size, 1, none⟩ = some (.int .u64 0) := by rw [blk_cell HK4.out]; rfl
      have c2 : wr.cell? ⟨w.heap.size, 2, none⟩ = some (.bool false) := by rw [blk_cell HK4.out]; rfl
      have c3 : wr.cell? ⟨w.heap.size, 3, none⟩ = some (.string (⟨#[]⟩ : ByteArray)) := by rw [blk_cell HK4.out]; rfl
      clear hp HP hi
      by_cases t0 : n0 > s.size
      · have e0 : decide ((s.size : Int) < (n0 : Int)) = true := decide_eq_true (by omega)
        have e0' : decide (s.size < n0) = true := decide_eq_true t0
        have HE : Aside0 (entryL l s = none) := ⟨by rw [HX.out, if_pos (.inl t0)]⟩
        clear hd
        go_wp2_with fail
        refine bodyPost_ret (results_ctt rfl _ _ w.heap.size 30 #[.string (⟨#[]⟩ : ByteArray), .int .u64 0, .bool false, .string (⟨#[]⟩ : ByteArray)] (0, 0) _ rfl (by refine blk_put (cs := #[.string (⟨#[]⟩ : ByteArray), .int .u64 0, .bool false, .string (⟨#[]⟩ : ByteArray)]) ?_ 3 _ rfl; refine blk_put (cs := #[.string (⟨#[]⟩ : ByteArray), .int .u64 0, .bool false, .string (⟨#[]⟩ : ByteArray)]) ?_ 2 _ rfl; refine blk_put (cs := #[.string (⟨#[]⟩ : ByteArray), .int .u64 0, .bool false, .string (⟨#[]⟩ : ByteArray)]) ?_ 1 _ rfl; refine blk_put (cs := #[.string (⟨#[]⟩ : ByteArray), .int .u64 0, .bool false, .string (⟨#[]⟩ : ByteArray)]) ?_ 0 _ rfl; exact HK4.out) Tryd.underlying30 rfl (by kernel_rfl)) rfl ?_
        rw [HE.out]
        exact ⟨⟨⟨(⟨#[]⟩ : ByteArray), 0, false, (⟨#[]⟩ : ByteArray)⟩, 0, rfl⟩, by repeat (first | exact HBW.out | refine below_at ?_ (Nat.le_refl _) _ _)⟩
      have e0 : decide ((s.size : Int) < (n0 : Int)) = false := decide_eq_false (by omega)
      have e0' : decide (s.size < n0) = false := decide_eq_false t0
      by_cases t1 : n1 > d
      · have e1 : decide ((d : Int) < (n1 : Int)) = true := decide_eq_true (by omega)
        have e1' : decide (d < n1) = true := decide_eq_true t1
        have HE : Aside0 (entryL l s = none) := ⟨by rw [HX.out, if_pos (.inr t1)]⟩
        clear hd
        go_wp2_with fail
        refine bodyPost_ret (results_ctt rfl _ _ w.heap.size 30 #[.string (⟨#[]⟩ : ByteArray), .int .u64 0, .bool false, .string (⟨#[]⟩ : ByteArray)] (0, 0) _ rfl (by refine blk_put (cs := #[.string (⟨#[]⟩ : ByteArray), .int .u64 0, .bool false, .string (⟨#[]⟩ : ByteArray)]) ?_ 3 _ rfl; refine blk_put (cs := #[.string (⟨#[]⟩ : ByteArray), .int .u64 0, .bool false, .string (⟨#[]⟩ : ByteArray)]) ?_ 2 _ rfl; refine blk_put (cs := #[.string (⟨#[]⟩ : ByteArray), .int .u64 0, .bool false, .string (⟨#[]⟩ : ByteArray)]) ?_ 1 _ rfl; refine blk_put (cs := #[.string (⟨#[]⟩ : ByteArray), .int .u64 0, .bool false, .string (⟨#[]⟩ : ByteArray)]) ?_ 0 _ rfl; exact HK4.out) Tryd.underlying30 rfl (by kernel_rfl)) rfl ?_
        rw [HE.out]
        exact ⟨⟨⟨(⟨#[]⟩ : ByteArray), 0, false, (⟨#[]⟩ : ByteArray)⟩, 0, rfl⟩, by repeat (first | exact HBW.out | refine below_at ?_ (Nat.le_refl _) _ _)⟩
      have e1 : decide ((d : Int) < (n1 : Int)) = false := decide_eq_false (by omega)
      have e1' : decide (d < n1) = false := decide_eq_false t1
      obtain ⟨E, hE⟩ : ∃ E : Nat, a + n1 = E := ⟨_, rfl⟩
      have eE : (a : Int) + (n1 : Int) = (E : Int) := by omega
      have HX2 := HX.out
      rw [if_neg (by omega), hE] at HX2
      have HY := Aside0.mk HX2
      clear HX2 HX
      have hEl : E ≤ l.length := by omega
      have haE : a ≤ E := by omega
      have hn1s : n1 ≤ 2147483647 := by omega
      have hn0s : n0 ≤ s.size := by omega
      clear hE hd t0 t1
      go_wp2_with fail
      obtain ⟨As, hs1, hr1⟩ := Rd.mid (P := Tryd.prog) (t := 22) (Kd.int .u8) Tryd.underlying22 infoU .i64 .i64 A l.length c a E haE hEl HR.out.2.1
      have R1 := Aside0.mk ((hr1 w l HR.out).step HBW.out)
      obtain ⟨mid, hmid⟩ : ∃ mid, (l.take E).drop a = mid := ⟨_, rfl⟩
      obtain ⟨nm, hnm⟩ : ∃ nm, E - a = nm := ⟨_, rfl⟩
      rw [hmid, hnm] at R1
      rw [hnm] at hs1
      rw [hmid] at HY
      have hcvX := Kd.C_string (P := Tryd.prog) (w := wr.drew) (A := As) (c := c - a) Tryd.underlying22 Tryd.underlying5 Tryd.underlying9 (show Kd.C (Kd.int .u8) wr.drew As nm mid from R1.out.2.2)
      have g0 : (0 : Int) ≤ (n0 : Int) := by omega
      have g0' : (n0 : Int) ≤ (s.size : Int) := by omega
      have ga : (0 : Int) ≤ (a : Int) := by omega
      have ga' : (a : Int) ≤ (E : Int) := by omega
      have gE : (E : Int) ≤ (l.length : Int) := by omega
      have hsz : (s.extract 0 n0).size + (strOfNums mid).size ≤ 9223372036854775807 := by
        have h1 : (s.extract 0 n0).size ≤ s.size := by rw [ByteArray.size_extract]; omega
        have h2 : (strOfNums mid).size = mid.length := by simp [strOfNums, ByteArray.size]
        have h3 := R1.out.1
        omega
      have hsz1 : decide ((s.extract 0 n0).size + (strOfNums mid).size ≤ 9223372036854775807) = true := decide_eq_true hsz
      have hsz2 : (9223372036854775807 < (s.extract 0 n0).size + (strOfNums mid).size) = False := eq_false (Nat.not_lt.2 hsz)
      have HSS : Aside0 (∀ W' : World, Below wr.heap.size wr W' → W'.cell? ⟨w.heap.size + 1, 0, none⟩ = some (.int .u64 (n0 : Int)) ∧ W'.cell? ⟨w.heap.size + 1, 2, none⟩ = some (.int .u64 (n2 : Int)) ∧ (Go.convert 22 9 (.slice As nm (c - a))).run Tryd.prog W' = .ok (.string (strOfNums mid)) W') := ⟨fun W' hW => ⟨(hW.cell (p := ⟨w.heap.size + 1, 0, none⟩) (blk_lt HK8.out)).trans c8_0, (hW.cell (p := ⟨w.heap.size + 1, 2, none⟩) (blk_lt HK8.out)).trans c8_2, Kd.C_string (P := Tryd.prog) (A := As) (c := c - a) Tryd.underlying22 Tryd.underlying5 Tryd.underlying9 (Kd.C_below R1.out.2.2 hW)⟩⟩
      have hsz3 : (9223372036854775807 < n0 + (strOfNums mid).size) = False := eq_false (by
        have h1 : (s.extract 0 n0).size = n0 := by rw [ByteArray.size_extract]; omega
        omega)
      have HQN : Aside0 (IntKind.u64.wrap ((n2 : Int) / 2) = ((n2 / 2 : Nat) : Int) ∧ ((n2 : Int).tmod 2 == 1) = (n2 % 2 == 1)) := ⟨by
        refine ⟨?_, ?_⟩
        · rw [show (n2 : Int) / 2 = ((n2 / 2 : Nat) : Int) by omega]; exact u64_nat (by omega)
        · rw [Int.tmod_eq_emod_of_nonneg (by omega), show ((n2 : Int) % 2) = ((n2 % 2 : Nat) : Int) by omega]
          rw [Bool.eq_iff_iff, beq_iff_eq, beq_iff_eq]
          omega⟩
      clear hr1 hmid hnm hsz hcvX
      go_cut [14] (fun s14 wx => ∃ g : Nat, s14 = .pointer (some ⟨g, 0, none⟩) ∧ w.heap.size < g ∧ Aside0 (wx.heap[g]? = some (.cells #[.string (s.extract 0 n0 ++ strOfNums mid), .int .u64 ((n2 / 2 : Nat) : Int), .bool (n2 % 2 == 1), .string (⟨#[]⟩ : ByteArray)] 30 (0, 0))) ∧ Aside0 (Below w.heap.size w wx) ∧ Aside0 (wx.heap[w.heap.size]? = some (.cells #[.string (⟨#[]⟩ : ByteArray), .int .u64 0, .bool false, .string (⟨#[]⟩ : ByteArray)] 30 (0, 0))))
      case first =>
        go_region_held3 (fun W' => W'.cell? ⟨w.heap.size + 1, 0, none⟩ = some (.int .u64 (n0 : Int)) ∧ W'.cell? ⟨w.heap.size + 1, 2, none⟩ = some (.int .u64 (n2 : Int)) ∧ (Go.convert 22 9 (.slice As nm (c - a))).run Tryd.prog W' = .ok (.string (strOfNums mid)) W') (exact HSS.out _ (by repeat (with_reducible first | exact Below.refl _ _ | apply below_alloc | apply pw_below_drewN | apply below_drew1 | refine below_at ?_ (Nat.le_refl _) _ _))) ((fail))
        go_wp2
        go_meet
        case rel => exact ⟨wr.heap.size, rfl, blk_lt HK4.out, ⟨by rw [← HQN.out.1, ← HQN.out.2]; exact heap_alloc_new wr _⟩, ⟨below_drew (below_alloc HBW.out _)⟩, ⟨blk_alloc HK4.out _⟩⟩
      case rest =>
        obtain ⟨g, rfl, hg, HKG, HBX, HKX⟩ := hcut
        clear HK4 HK8 HBW HSS hf4_0 hf4_1 hf4_2 hf4_3 hf8_0 hf8_1 hf8_2 c8_0 c8_1 c8_2 c0 c1 c2 c3 hs1 hsz1 hsz2 hsz3 R1
        have k0 := blk_frozen HKX.out 0
        have k1 := blk_frozen HKX.out 1
        have k2 := blk_frozen HKX.out 2
        have k3 := blk_frozen HKX.out 3
        have c0 : wc.cell? ⟨w.heap.size, 0, none⟩ = some (.string (⟨#[]⟩ : ByteArray)) := by rw [blk_cell HKX.out]; rfl
        have c1 : wc.cell? ⟨w.heap.size, 1, none⟩ = some (.int .u64 0) := by rw [blk_cell HKX.out]; rfl
        have c2 : wc.cell? ⟨w.heap.size, 2, none⟩ = some (.bool false) := by rw [blk_cell HKX.out]; rfl
        have c3 : wc.cell? ⟨w.heap.size, 3, none⟩ = some (.string (⟨#[]⟩ : ByteArray)) := by rw [blk_cell HKX.out]; rfl
        have z0 : wc.cell? ⟨g, 0, none⟩ = some (.string (s.extract 0 n0 ++ strOfNums mid)) := by rw [blk_cell HKG.out]; rfl
        have z1 : wc.cell? ⟨g, 1, none⟩ = some (.int .u64 ((n2 / 2 : Nat) : Int)) := by rw [blk_cell HKG.out]; rfl
        have z3 : wc.cell? ⟨g, 3, none⟩ = some (.string (⟨#[]⟩ : ByteArray)) := by rw [blk_cell HKG.out]; rfl
        by_cases hp : n2 % 2 = 1
        · have z2 : wc.cell? ⟨g, 2, none⟩ = some (.bool true) := by rw [blk_cell HKG.out]; simp [hp]
          have HE : Aside0 (entryL l s = some (⟨s.extract 0 n0 ++ strOfNums mid, ((n2 / 2 : Nat) : Int), true, (⟨#[]⟩ : ByteArray)⟩, E)) := ⟨by rw [HY.out, if_pos hp]⟩
          clear hp
          go_wp2_with fail
          refine bodyPost_ret (results_ctt rfl _ _ w.heap.size 30 #[.string (s.extract 0 n0 ++ strOfNums mid), .int .u64 ((n2 / 2 : Nat) : Int), .bool true, .string (⟨#[]⟩ : ByteArray)] (0, 0) _ rfl (by refine blk_put (cs := #[.string (s.extract 0 n0 ++ strOfNums mid), .int .u64 ((n2 / 2 : Nat) : Int), .bool true, .string (⟨#[]⟩ : ByteArray)]) ?_ 3 _ rfl; refine blk_put (cs := #[.string (s.extract 0 n0 ++ strOfNums mid), .int .u64 ((n2 / 2 : Nat) : Int), .bool false, .string (⟨#[]⟩ : ByteArray)]) ?_ 2 _ rfl; refine blk_put (cs := #[.string (s.extract 0 n0 ++ strOfNums mid), .int .u64 0, .bool false, .string (⟨#[]⟩ : ByteArray)]) ?_ 1 _ rfl; refine blk_put (cs := #[.string (⟨#[]⟩ : ByteArray), .int .u64 0, .bool false, .string (⟨#[]⟩ : ByteArray)]) ?_ 0 _ rfl; exact HKX.out) Tryd.underlying30 rfl (by kernel_rfl)) rfl ?_
          rw [HE.out]
          exact ⟨rfl, by repeat (first | exact HBX.out | refine below_at ?_ (Nat.le_refl _) _ _)⟩
        · have z2 : wc.cell? ⟨g, 2, none⟩ = some (.bool false) := by rw [blk_cell HKG.out]; simp [hp]
          have hz : (n2 % 2 == 1) = false := by rw [beq_eq_false_iff_ne]; exact hp
          have HKG2 : Aside0 (wc.heap[g]? = some (.cells #[.string (s.extract 0 n0 ++ strOfNums mid), .int .u64 ((n2 / 2 : Nat) : Int), .bool false, .string (⟨#[]⟩ : ByteArray)] 30 (0, 0))) := ⟨by have := HKG.out; rwa [hz] at this⟩
          have HY2 := HY.out
          rw [if_neg hp] at HY2
          obtain ⟨sv, kv, ev', hT, hkv⟩ := textL_form (l.drop E) 512
          rw [hT] at HY2
          simp only [Int.toNat_natCast] at HY2
          have HY3 := Aside0.mk HY2
          have HTX : Aside0 (codec_Text.f (l.drop E) 512 = some (sv, (kv : Int), (ev' : Int))) := ⟨by unfold codec_Text.f; rw [if_pos ⟨okB_iff.2 (fun y hy => HB.out y (List.mem_of_mem_drop hy)), by rw [List.length_drop]; omega, by decide, by decide⟩, hT]⟩
          obtain ⟨A', hfrom, hfr⟩ := Rd.from (P := Tryd.prog) (t := 22) (Kd.int .u8) Tryd.underlying22 infoU .i64 A l.length c E hEl HR.out.2.1
          have HRF := Aside0.mk ((hfr w l HR.out).step HBX.out)
          obtain ⟨dE, hdE⟩ : ∃ dE, l.length - E = dE := ⟨_, rfl⟩
          rw [hdE] at hfrom HRF
          rw [List.length_drop] at hkv
          have hkl : kv ≤ 2147483647 := by omega
          clear hp hz HY HY2 hT hfr hdE HKG
          have y0 := blk_frozen HKG2.out 0
          have y1 := blk_frozen HKG2.out 1
          have y2 := blk_frozen HKG2.out 2
          have y3 := blk_frozen HKG2.out 3
          go_wp2_with fail
          obtain ⟨hrl, hrc, hrC⟩ := HRF.out
          subst hrl
          refine (codec_Text.calls A' (c - E) (l.drop E) 512 sv (kv : Int) (ev' : Int) _ hrC hrc HTX.out).mono ?_
          rintro e' W1 ⟨rfl, hD⟩
          have HB1 := Aside0.mk (below_step HBX.out hD.below)
          have HK4b := Aside0.mk ((hD.below.block _ (blk_lt HKX.out)).trans HKX.out)
          have HKGb := Aside0.mk ((hD.below.block _ (blk_lt HKG2.out)).trans HKG2.out)
          clear hD hrc hrC c0 c1 c2 c3 z0 z1 z2 z3 k0 k1 k2 k3 y0 y1 y2 y3
          have k0 := blk_frozen HK4b.out 0
          have k1 := blk_frozen HK4b.out 1
          have k2 := blk_frozen HK4b.out 2
          have k3 := blk_frozen HK4b.out 3
          have y0 := blk_frozen HKGb.out 0
          have y1 := blk_frozen HKGb.out 1
          have y2 := blk_frozen HKGb.out 2
          have y3 := blk_frozen HKGb.out 3
          have c0 : W1.cell? ⟨w.heap.size, 0, none⟩ = some (.string (⟨#[]⟩ : ByteArray)) := by rw [blk_cell HK4b.out]; rfl
          have c1 : W1.cell? ⟨w.heap.size, 1, none⟩ = some (.int .u64 0) := by rw [blk_cell HK4b.out]; rfl
          have c2 : W1.cell? ⟨w.heap.size, 2, none⟩ = some (.bool false) := by rw [blk_cell HK4b.out]; rfl
          have c3 : W1.cell? ⟨w.heap.size, 3, none⟩ = some (.string (⟨#[]⟩ : ByteArray)) := by rw [blk_cell HK4b.out]; rfl
          have z0 : W1.cell? ⟨g, 0, none⟩ = some (.string (s.extract 0 n0 ++ strOfNums mid)) := by rw [blk_cell HKGb.out]; rfl
          have z1 : W1.cell? ⟨g, 1, none⟩ = some (.int .u64 ((n2 / 2 : Nat) : Int)) := by rw [blk_cell HKGb.out]; rfl
          have z2 : W1.cell? ⟨g, 2, none⟩ = some (.bool false) := by rw [blk_cell HKGb.out]; rfl
          have z3 : W1.cell? ⟨g, 3, none⟩ = some (.string (⟨#[]⟩ : ByteArray)) := by rw [blk_cell HKGb.out]; rfl
          have hgn : g ≠ w.heap.size := by omega
          have hgn' : w.heap.size ≠ g := by omega
          by_cases he : ev' = 0
          · have d1 : ((ev' : Int) == 0) = true := by rw [beq_iff_eq]; omega
            have HE : Aside0 (entryL l s = some (⟨s.extract 0 n0 ++ strOfNums mid, ((n2 / 2 : Nat) : Int), false, sv⟩, E + kv)) := ⟨by rw [HY3.out, if_neg (by omega)]⟩
            clear he
            go_wp2_with fail
            refine bodyPost_ret (results_ctt rfl _ _ w.heap.size 30 #[.string (s.extract 0 n0 ++ strOfNums mid), .int .u64 ((n2 / 2 : Nat) : Int), .bool false, .string sv] (0, 0) _ rfl (by refine blk_put (cs := #[.string (s.extract 0 n0 ++ strOfNums mid), .int .u64 ((n2 / 2 : Nat) : Int), .bool false, .string (⟨#[]⟩ : ByteArray)]) ?_ 3 _ rfl; refine blk_put (cs := #[.string (s.extract 0 n0 ++ strOfNums mid), .int .u64 ((n2 / 2 : Nat) : Int), .bool false, .string (⟨#[]⟩ : ByteArray)]) ?_ 2 _ rfl; refine blk_put (cs := #[.string (s.extract 0 n0 ++ strOfNums mid), .int .u64 0, .bool false, .string (⟨#[]⟩ : ByteArray)]) ?_ 1 _ rfl; refine blk_put (cs := #[.string (⟨#[]⟩ : ByteArray), .int .u64 0, .bool false, .string (⟨#[]⟩ : ByteArray)]) ?_ 0 _ rfl; exact blk_far HK4b.out hgn' _) Tryd.underlying30 rfl (by kernel_rfl)) rfl ?_
            rw [HE.out]
            exact ⟨by first | rfl | simp [ev], by repeat (first | exact HB1.out | refine below_at ?_ (Nat.le_refl _) _ _ | refine below_at ?_ (Nat.le_of_lt hg) _ _)⟩
          · have d1 : ((ev' : Int) == 0) = false := by rw [beq_eq_false_iff_ne]; omega
            have HE : Aside0 (entryL l s = none) := ⟨by rw [HY3.out, if_pos (by omega)]⟩
            clear he
            go_wp2_with fail
            refine bodyPost_ret (results_ctt rfl _ _ w.heap.size 30 #[.string (s.extract 0 n0 ++ strOfNums mid), .int .u64 ((n2 / 2 : Nat) : Int), .bool false, .string sv] (0, 0) _ rfl (by refine blk_put (cs := #[.string (s.extract 0 n0 ++ strOfNums mid), .int .u64 ((n2 / 2 : Nat) : Int), .bool false, .string (⟨#[]⟩ : ByteArray)]) ?_ 3 _ rfl; refine blk_put (cs := #[.string (s.extract 0 n0 ++ strOfNums mid), .int .u64 ((n2 / 2 : Nat) : Int), .bool false, .string (⟨#[]⟩ : ByteArray)]) ?_ 2 _ rfl; refine blk_put (cs := #[.string (s.extract 0 n0 ++ strOfNums mid), .int .u64 0, .bool false, .string (⟨#[]⟩ : ByteArray)]) ?_ 1 _ rfl; refine blk_put (cs := #[.string (⟨#[]⟩ : ByteArray), .int .u64 0, .bool false, .string (⟨#[]⟩ : ByteArray)]) ?_ 0 _ rfl; exact blk_far HK4b.out hgn' _) Tryd.underlying30 rfl (by kernel_rfl)) rfl ?_
            rw [HE.out]
            exact ⟨⟨⟨s.extract 0 n0 ++ strOfNums mid, ((n2 / 2 : Nat) : Int), false, sv⟩, _, rfl⟩, by repeat (first | exact HB1.out | refine below_at ?_ (Nat.le_refl _) _ _ | refine below_at ?_ (Nat.le_of_lt hg) _ _)⟩
end Go.Proofs.YtaonjmkfbfhanaaDoor.Bk
namespace Go.Proofs.YtaonjmkfbfhanaaDoor.Bk
open Go.RowKit Go.Proofs.YtaonjmkfbfhanaaDoorW.PrintWords Go.Proofs.YtaonjmkfbfhanaaDoor.Own Go.Proofs.YtaonjmkfbfhanaaDoor.G Go.Proofs.YtaonjmkfbfhanaaDoor.Wk Go.Proofs.YtaonjmkfbfhanaaDoor.QBo
set_option linter.unusedVariables false
theorem i64_or_nat (a b : Nat) (ha : a < 9223372036854775808) (hb : b < 9223372036854775808) : Go.bits .or .i64 (a : Int) (b : Int) = ((a ||| b : Nat) : Int) := by
  have hx : a ||| b < 2 ^ 63 := Nat.or_lt_two_pow (by omega) (by omega)
  show IntKind.i64.wrap ((BitVec.ofInt 64 (a : Int) ||| BitVec.ofInt 64 (b : Int)).toNat : Int) = _
  rw [BitVec.toNat_or, ofInt_u64 a (by omega), ofInt_u64 b (by omega), IntKind.wrap_i64]
  omega
theorem or_add (a b k : Nat) (ha : a < 2 ^ k) : a ||| b * 2 ^ k = a + b * 2 ^ k := by
  rw [Nat.mul_comm b, Nat.add_comm a, Nat.two_pow_add_eq_or_of_lt ha, Nat.or_comm]
theorem or8 (a b : Nat) (ha : a < 256) : a ||| b * 256 = a + b * 256 := or_add a b 8 ha
theorem or16 (a b : Nat) (ha : a < 65536) : a ||| b * 65536 = a + b * 65536 := or_add a b 16 ha
theorem or24 (a b : Nat) (ha : a < 16777216) : a ||| b * 16777216 = a + b * 16777216 := or_add a b 24 ha
theorem word_bits (x0 x1 x2 x3 : Nat) (h0 : x0 ≤ 255) (h1 : x1 ≤ 255) (h2 : x2 ≤ 255) (h3 : x3 ≤ 255) : Go.bits .or .i64 (Go.bits .or .i64 (Go.bits .or .i64 (wrap64 (x0 : Int)) (wrap64 ((wrap64 (x1 : Int)) * 256))) (wrap64 ((wrap64 (x2 : Int)) * 65536))) (wrap64 ((wrap64 (x3 : Int)) * 16777216)) = ((x0 + x1 * 256 + x2 * 65536 + x3 * 16777216 : Nat) : Int) := by
  have w0 : wrap64 (x0 : Int) = (x0 : Int) := by unfold wrap64; omega
  have w1 : wrap64 ((wrap64 (x1 : Int)) * 256) = ((x1 * 256 : Nat) : Int) := by unfold wrap64; omega
  have w2 : wrap64 ((wrap64 (x2 : Int)) * 65536) = ((x2 * 65536 : Nat) : Int) := by unfold wrap64; omega
  have w3 : wrap64 ((wrap64 (x3 : Int)) * 16777216) = ((x3 * 16777216 : Nat) : Int) := by unfold wrap64; omega
  have q1 : x0 ||| x1 * 256 = x0 + x1 * 256 := or8 _ _ (by omega)
  have q2 : x0 + x1 * 256 ||| x2 * 65536 = x0 + x1 * 256 + x2 * 65536 := or16 _ _ (by omega)
  have q3 : x0 + x1 * 256 + x2 * 65536 ||| x3 * 16777216 = x0 + x1 * 256 + x2 * 65536 + x3 * 16777216 := or24 _ _ (by omega)
  rw [w0, w1, w2, w3, i64_or_nat x0 (x1 * 256) (by omega) (by omega), q1, i64_or_nat (x0 + x1 * 256) (x2 * 65536) (by omega) (by omega), q2, i64_or_nat (x0 + x1 * 256 + x2 * 65536) (x3 * 16777216) (by omega) (by omega), q3]
/-- Four bytes of a list, the lowest first. -/
def wordL (l : List Int) (a : Nat) : Nat := (rd l (a : Int)).toNat + (rd l ((a + 1 : Nat) : Int)).toNat * 256 + (rd l ((a + 2 : Nat) : Int)).toNat * 65536 + (rd l ((a + 3 : Nat) : Int)).toNat * 16777216
theorem word_eq {l : List Int} (hb : Bytes l) (hl : 4 ≤ l.length) : block_word.f l = some (wordL l 0 : Int) := by
  have b0 := bytes_rd hb 0 (by omega)
  have b1 := bytes_rd hb 1 (by omega)
  have b2 := bytes_rd hb 2 (by omega)
  have b3 := bytes_rd hb 3 (by omega)
  unfold block_word.f wordL
  rw [if_pos (by omega), if_pos (by omega), if_pos (by omega), if_pos (by omega)]
  have e := word_bits (rd l ((0 : Nat) : Int)).toNat (rd l ((1 : Nat) : Int)).toNat (rd l ((2 : Nat) : Int)).toNat (rd l ((3 : Nat) : Int)).toNat (by omega) (by omega) (by omega) (by omega)
  rw [Int.toNat_of_nonneg b0.1, Int.toNat_of_nonneg b1.1, Int.toNat_of_nonneg b2.1, Int.toNat_of_nonneg b3.1] at e
  exact congrArg some e
theorem word_calls {w : World} {A : Option Addr} {n c : Nat} {l : List Int} (h : Rd (Kd.int .u8) w A n c l) (hb : Bytes l) (hl : 4 ≤ l.length) : Calls Tryd.prog 70 #[.slice A n c] w fun e w' => e = .returned (.int .i64 (wordL l 0 : Int)) ∧ Drawn0 w w' := by
  obtain ⟨rfl, a2, a3⟩ := h
  exact block_word.calls A c l _ w a3 a2 (word_eq hb hl)
theorem wordL_range {l : List Int} (hb : Bytes l) (a : Nat) (h : a + 3 < l.length) : wordL l a < 4294967296 := by
  have b0 := bytes_rd hb a (by omega)
  have b1 := bytes_rd hb (a + 1) (by omega)
  have b2 := bytes_rd hb (a + 2) (by omega)
  have b3 := bytes_rd hb (a + 3) (by omega)
  unfold wordL
  omega
theorem rd_dropN (l : List Int) (a k : Nat) : rd (l.drop a) (k : Int) = rd l ((a + k : Nat) : Int) := by
  simp only [rd, Int.toNat_natCast, List.getD_eq_getElem?_getD, List.getElem?_drop]
theorem wordL_drop (l : List Int) (a k : Nat) : wordL (l.drop a) k = wordL l (a + k) := by
  unfold wordL
  rw [rd_dropN, rd_dropN, rd_dropN, rd_dropN]
  rfl
/-- 'x[:m:m]'. -/
theorem to_room {α : Type} (d : Kd α) {P : Program} {t e : TypeId} {z : Value} {b : Nat} (ht : P.underlying t = some (.slice e)) (hi : (P.info? e).map (fun i => (i.zero, i.size, i.bytes)) = some (some z, d.sz, b)) (kh km : IntKind) (A : Option Addr) (n c m : Nat) (hm : m ≤ n) (hc : n ≤ c) :
    ∃ A', (∀ W : World, (Instr.slice t (.slice A n c) none (some (.int kh (m : Int))) (some (.int km (m : Int)))).run P W = .ok (.slice A' m m) W) ∧ ∀ (w : World) (l : List α), Rd d w A n c l → Rd d w A' m m (l.take m) := by
  obtain ⟨i0, hi0, _, hsz, _⟩ := info_parts hi
  have hel : P.elem t = e := by simp [Program.elem, ht]
  have hu : P.underlying t = some (.slice (P.elem t)) := by rw [hel]; exact ht
  refine ⟨A, fun W => ?_, fun w l hr => ?_⟩
  · rw [run_slice_hm W t A n c hu kh km (m : Int) (m : Int) (by omega) (by omega) (by omega), hel]
    simp [sizeOf, typeInfo, hi0, hsz, sliced, Result.andThen]
    intro hne
    cases A with
    | none => rfl
    | some ad => simp [Addr.add]
  · have := hr.take m hm
    exact ⟨this.1, Nat.le_refl _, this.2.2⟩
end Go.Proofs.YtaonjmkfbfhanaaDoor.Bk
namespace Go.Proofs.YtaonjmkfbfhanaaDoor.Bk
open Go.RowKit Go.Proofs.YtaonjmkfbfhanaaDoorW.PrintWords Go.Proofs.YtaonjmkfbfhanaaDoor.Own Go.Proofs.YtaonjmkfbfhanaaDoor.G Go.Proofs.YtaonjmkfbfhanaaDoor.Wk Go.Proofs.YtaonjmkfbfhanaaDoor.QBo
set_option linter.unusedVariables false
/-- The key of the last of the entries. -/
def lastK (es : List En) : ByteArray := if es.length = 0 then (⟨#[]⟩ : ByteArray) else (rd_T30 es ((es.length - 1 : Nat) : Int)).f0
set_option maxHeartbeats 8000000 in
set_option maxRecDepth 100000 in
theorem key_calls {w : World} {g : Nat} {A : Option Addr} {n c : Nat} {es : List En} {rs : Int} (hg : w.heap[g]? = some (.cells #[.slice A n c, .int .i64 rs] 98 (0, 0))) (hr : Rd kE w A n c es) (hn : n ≤ 2147483647) :
    Calls Tryd.prog 72 #[.pointer (some ⟨g, 0, none⟩)] w fun e w' => e = .returned (.string (lastK es)) ∧ Drawn0 w w' := by
  obtain ⟨rfl, h2, h3⟩ := hr
  have hc0 : w.cell? ⟨g, 0, none⟩ = some (.slice A es.length c) := (blk_cell hg 0).trans rfl
  by_cases c2 : es.length = 0
  · have c2b0 : ((es.length : Int) == 0) = true := beq_iff_eq.mpr (by omega)
    have c2b1 : ((es.length : Int) != 0) = false := bne_eq_false_iff_eq.mpr (by omega)
    have hl : lastK es = (⟨#[]⟩ : ByteArray) := by unfold lastK; rw [if_pos c2]
    rw [hl]
    clear hg h2 h3 hl c2
    go_enter Tryd.func72, Tryd.ntmps72
    go_wp2_with fail
    go_ret
    exact ⟨rfl, Drawn0.refl _⟩
  · have c2b0 : ((es.length : Int) == 0) = false := beq_eq_false_iff_ne.mpr (by omega)
    have c2b1 : ((es.length : Int) != 0) = true := bne_iff_ne.mpr (by omega)
    obtain ⟨j, hj⟩ : ∃ j : Int, ((es.length - 1 : Nat) : Int) = j := ⟨_, rfl⟩
    have hji4w : (IntKind.i64.wrap ((es.length : Int) - 1)) = j := by rw [IntKind.wrap_i64]; omega
    have hl : lastK es = (rd_T30 es j).f0 := by unfold lastK; rw [if_neg c2, hj]
    rw [hl]
    have p107 : (0 : Int) ≤ j := by omega
    have q107 : j < (es.length : Int) := by omega
    obtain ⟨ad107, e107, hx107_0, hx107_1, hx107_2, hx107_3⟩ := at_T30 h3 j p107 q107
    cases e107
    clear hg h2 h3 hl c2 hj
    replace p107 := eq_true p107
    replace q107 := eq_true q107
    go_enter Tryd.func72, Tryd.ntmps72
    go_wp2
    repeat (go_quiet (fail); try go_wp2)
    go_ret
    exact ⟨rfl, by repeat (first | exact Drawn0.refl _ | apply Drawn0.step | exact drawn0_drewN _ _)⟩
end Go.Proofs.YtaonjmkfbfhanaaDoor.Bk
namespace Go.Proofs.YtaonjmkfbfhanaaDoor.Bk
open Go.RowKit Go.Proofs.YtaonjmkfbfhanaaDoorW.PrintWords Go.Proofs.YtaonjmkfbfhanaaDoor.Own Go.Proofs.YtaonjmkfbfhanaaDoor.G Go.Proofs.YtaonjmkfbfhanaaDoor.Wk Go.Proofs.YtaonjmkfbfhanaaDoor.QBo
set_option linter.unusedVariables false
/-- 'x[lo:hi:m]'. -/
theorem mid_room {α : Type} (d : Kd α) {P : Program} {t e : TypeId} {z : Value} {b : Nat} (ht : P.underlying t = some (.slice e)) (hi : (P.info? e).map (fun i => (i.zero, i.size, i.bytes)) = some (some z, d.sz, b)) (kl kh km : IntKind) (A : Option Addr) (n c lo hi' m : Nat) (h1 : lo ≤ hi') (h2 : hi' ≤ m) (hn : hi' ≤ n) (hm : m ≤ c) (hc : n ≤ c) :
    ∃ A', (∀ W : World, (Instr.slice t (.slice A n c) (some (.int kl (lo : Int))) (some (.int kh (hi' : Int))) (some (.int km (m : Int)))).run P W = .ok (.slice A' (hi' - lo) (m - lo)) W) ∧ ∀ (w : World) (l : List α), Rd d w A n c l → Rd d w A' (hi' - lo) (m - lo) ((l.take hi').drop lo) := by
  obtain ⟨i0, hi0, _, hsz, _⟩ := info_parts hi
  have hel : P.elem t = e := by simp [Program.elem, ht]
  have hu : P.underlying t = some (.slice (P.elem t)) := by rw [hel]; exact ht
  refine ⟨if m = lo then A else A.map (·.add (lo * d.sz)), fun W => ?_, fun w l hr => ?_⟩
  · rw [run_slice_lhm W t A n c hu kl kh km (lo : Int) (hi' : Int) (m : Int) (by omega) (by omega) (by omega) (by omega), hel]
    simp [sizeOf, typeInfo, hi0, hsz, sliced, Result.andThen]
  · obtain ⟨rfl, a2, a3⟩ := hr
    have hl : ((l.take hi').drop lo).length = hi' - lo := by rw [List.length_drop, List.length_take]; omega
    by_cases hq : m = lo
    · rw [if_pos hq]
      have e0 : (l.take hi').drop lo = [] := by apply List.eq_nil_of_length_eq_zero; omega
      have h0 := Kd.C_take a3 (Nat.zero_le l.length)
      rw [e0, show hi' - lo = 0 by omega]
      simp only [List.take_zero, List.length_nil] at h0
      exact ⟨rfl, by omega, h0⟩
    · rw [if_neg hq]
      have h3 := Kd.C_mid a3 h1 hn a2
      rw [if_neg (by omega)] at h3
      rw [hl] at h3
      exact ⟨hl, by omega, h3⟩
/-- What stands behind the second place's word: how many entries lie ahead of it, once. -/
def restS (Pl : List Int) (count a : Nat) (es : List En) (rs : Nat) : Nat := if 1 < count ∧ a = wordL Pl 4 ∧ rs = 1 ∧ 0 < es.length then es.length else rs
/-- The entries from place a on, behind those before. -/
def rowsR (D Pl : List Int) (count : Nat) : Nat → Nat → List En → Nat → Option (List En × Nat)
  | 0, _, _, _ => none
  | f + 1, a, es, rs =>
    if a < D.length then
      match entryL (D.drop a) (lastK es) with
      | none => none
      | some (x, k) => rowsR D Pl count f (a + k) (es ++ [x]) (restS Pl count a es rs)
    else some (es, if count ≤ 1 then max es.length 1 else rs)
theorem rowsR_step (D Pl : List Int) (count f a : Nat) (es : List En) (rs : Nat) : rowsR D Pl count (f + 1) a es rs = if a < D.length then (match entryL (D.drop a) (lastK es) with
      | none => none
      | some (x, k) => rowsR D Pl count f (a + k) (es ++ [x]) (restS Pl count a es rs)) else some (es, if count ≤ 1 then max es.length 1 else rs) := rfl
/-- A block's entries, and its restart. -/
def readB (b : List Int) : Option (List En × Nat) :=
  if b.length < 8 then none
  else if (b.length - 8) / 4 < wordL b (b.length - 8) then none
  else rowsR (b.take (b.length - 8 - 4 * wordL b (b.length - 8))) ((b.take (b.length - 8)).drop (b.length - 8 - 4 * wordL b (b.length - 8))) (wordL b (b.length - 8)) (b.length + 1) 0 [] 1
theorem uintN_pos (l : List Int) (h : (uintN l).2.2 = 0) : 1 ≤ (uintN l).2.1 ∧ (uintN l).2.1 ≤ l.length := by
  unfold uintN at h ⊢
  have := uintR_pos l 0 0 h
  omega
theorem numsR_pos (l : List Int) : ∀ k a acc ns b, a ≤ l.length → numsR k l a acc = some (ns, b) → a + k ≤ b ∧ b ≤ l.length := by
  intro k
  induction k with
  | zero =>
    intro a acc ns b ha h
    simp only [numsR, Option.some.injEq, Prod.mk.injEq] at h
    omega
  | succ k ih =>
    intro a acc ns b ha h
    rw [numsR_step] at h
    by_cases h0 : (uintN (l.drop a)).2.2 = 0
    · have hp := uintN_pos (l.drop a) h0
      rw [List.length_drop] at hp
      rw [if_neg (by omega)] at h
      have := ih _ _ _ _ (by omega) h
      omega
    · rw [if_pos h0] at h
      exact absurd h (by simp)
theorem entryL_pos {l : List Int} {s : ByteArray} {x : En} {k : Nat} (h : entryL l s = some (x, k)) : 1 ≤ k ∧ k ≤ l.length ∧ x.f0.size ≤ s.size + k := by
  unfold entryL at h
  split at h
  · exact absurd h (by simp)
  · rename_i ns a hn
    have hp := numsR_pos l 3 0 [] ns a (Nat.zero_le _) hn
    simp only at h
    split at h
    · exact absurd h (by simp)
    · rename_i hc
      have hsz : (s.extract 0 (ns.getD 0 0) ++ strOfNums ((l.take (a + ns.getD 1 0)).drop a)).size ≤ s.size + (a + ns.getD 1 0) := by
        rw [ByteArray.size_append, ByteArray.size_extract, strOfNums_size, List.length_drop, List.length_take]
        omega
      split at h
      · simp only [Option.some.injEq, Prod.mk.injEq] at h
        obtain ⟨rfl, rfl⟩ := h
        exact ⟨by omega, by omega, hsz⟩
      · split at h
        · exact absurd h (by simp)
        · obtain ⟨tb, tk, te, ht, hk⟩ := textL_form (l.drop (a + ns.getD 1 0)) 512
          simp only [ht, Option.some.injEq, Prod.mk.injEq, Int.toNat_natCast] at h
          rw [List.length_drop] at hk
          obtain ⟨rfl, rfl⟩ := h
          exact ⟨by omega, by omega, by simp only; omega⟩
theorem lastK_snoc (es : List En) (x : En) : lastK (es ++ [x]) = x.f0 := by
  unfold lastK
  rw [if_neg (by simp)]
  simp [rd_T30]
end Go.Proofs.YtaonjmkfbfhanaaDoor.Bk
namespace Go.Proofs.YtaonjmkfbfhanaaDoor.U
open Go.RowKit Go.Proofs.YtaonjmkfbfhanaaDoorW.PrintWords Go.Proofs.YtaonjmkfbfhanaaDoor.Own
set_option linter.unusedVariables false
theorem uintR_numL (n : Nat) : ∀ (i a : Nat) (more : List Int), n * 128 ^ i < 18446744073709551616 → i ≤ 9 → (0 < i → 0 < n) → uintR (numL n ++ more) i a = (a + n * 128 ^ i, i + (numL n).length, 0) := by
  induction n using Nat.strongRecOn with
  | _ n ih =>
    intro i a more hn hi h0
    by_cases h : n < 128
    · rw [numL_small h]
      simp only [List.singleton_append, uintR, List.length_singleton]
      have h9 : ¬ (((n : Int) = 0 ∧ 0 < i) ∨ (i = 9 ∧ (n : Int) ≠ 1)) := by
        rintro (⟨h1, h2⟩ | ⟨rfl, h2⟩)
        · have := h0 h2; omega
        · have := h0 (by omega)
          simp only [Nat.reducePow] at hn
          omega
      rw [if_neg h9, if_pos (by omega), Int.toNat_natCast, Nat.mod_eq_of_lt h]
    · rw [numL_big h]
      simp only [List.cons_append, uintR, List.length_cons]
      have h9 : ¬ ((((n % 128 + 128 : Nat) : Int) = 0 ∧ 0 < i) ∨ (i = 9 ∧ ((n % 128 + 128 : Nat) : Int) ≠ 1)) := by
        rintro (⟨h1, h2⟩ | ⟨rfl, h2⟩)
        · omega
        · simp only [Nat.reducePow] at hn
          omega
      have hi9 : i ≠ 9 := by
        rintro rfl
        simp only [Nat.reducePow] at hn
        omega
      rw [if_neg h9, if_neg (by omega), Int.toNat_natCast, show (n % 128 + 128) % 128 = n % 128 by omega]
      have hp : 128 ^ (i + 1) = 128 * 128 ^ i := by rw [Nat.pow_succ, Nat.mul_comm]
      have hq : n * 128 ^ i = n % 128 * 128 ^ i + n / 128 * 128 ^ (i + 1) := by
        rw [hp, ← Nat.mul_assoc, ← Nat.add_mul]
        congr 1
        omega
      rw [ih (n / 128) (by omega) (i + 1) _ more (by omega) (by omega) (fun _ => by omega), hq]
      simp only [Prod.mk.injEq, and_true]
      omega
theorem uintN_numL (n : Nat) (more : List Int) (hn : n < 18446744073709551616) : uintN (numL n ++ more) = (n, (numL n).length, 0) := by
  unfold uintN
  rw [uintR_numL n 0 0 more (by simpa using hn) (by omega) (by omega)]
  simp
theorem str_bytes (s : ByteArray) : strOfNums (bytesOf s) = s := by
  cases s with
  | mk d =>
    unfold strOfNums bytesOf
    congr 1
    apply Array.ext'
    simp only [List.map_map]
    conv => rhs; rw [← List.map_id d.toList]
    apply List.map_congr_left
    intro b _
    simp
theorem textL_laid (s : ByteArray) (m : Int) (more : List Int) (hs : s.size < 18446744073709551616) (hm : (s.size : Int) ≤ m) : textL ((numL s.size ++ bytesOf s) ++ more) m = (s, (((numL s.size ++ bytesOf s).length : Nat) : Int), 0) := by
  unfold textL
  have hl : (bytesOf s).length = s.size := bytesOf_length s
  rw [List.append_assoc, uintN_numL _ _ hs]
  simp only
  rw [if_neg (by simp), if_neg (by omega), if_neg (by simp only [List.length_append, hl]; omega)]
  rw [← List.append_assoc, List.take_append_of_le_length (by simp only [List.length_append, hl]; omega), List.take_of_length_le (by simp only [List.length_append, hl]; omega), List.drop_left, str_bytes, List.length_append, hl]
end Go.Proofs.YtaonjmkfbfhanaaDoor.U
namespace Go.Proofs.YtaonjmkfbfhanaaDoor.Bk
open Go.RowKit Go.Proofs.YtaonjmkfbfhanaaDoorW.PrintWords Go.Proofs.YtaonjmkfbfhanaaDoor.Own Go.Proofs.YtaonjmkfbfhanaaDoor.G Go.Proofs.YtaonjmkfbfhanaaDoor.U
set_option linter.unusedVariables false
def txL (s : ByteArray) : List Int := numL s.size ++ bytesOf s
/-- A maker: its restart, its entries' bytes, its places, how many entries, the last key. -/
structure Mk where
  rs : Nat
  data : List Int
  places : List Nat
  n : Nat
  last : ByteArray
def rsOf (r : Int) : Nat := if 1 ≤ r then r.toNat else 1
def newM (r : Int) : Mk := ⟨rsOf r, [], [], 0, (⟨#[]⟩ : ByteArray)⟩
/-- Why an entry can't be written at all. -/
def wrongE (e : En) : Int :=
  if e.f0.size = 0 then 10 else if 64 < e.f0.size then 11 else if e.f2 = false ∧ 512 < e.f3.size then 12
  else if 72057594037927935 < e.f1 ∨ e.f2 = true ∧ e.f3.size ≠ 0 then 91 else 0
def leK (a b : ByteArray) : Bool := Op.bytesLess a.toList b.toList || a.toList == b.toList
/-- How many bytes two keys begin with alike. -/
def lcp : List Int → List Int → Nat
  | x :: a, y :: b => if x = y then lcp a b + 1 else 0
  | _, _ => 0
def markE (e : En) : Nat := 2 * e.f1.toNat + if e.f2 = true then 1 else 0
/-- An entry's bytes, n of its key's bytes being shared. -/
def encE (n : Nat) (e : En) : List Int := numL n ++ (numL (e.f0.size - n) ++ (numL (markE e) ++ ((bytesOf e.f0).drop n ++ if e.f2 = true then [] else txL e.f3)))
def sharedM (m : Mk) (e : En) : Nat := if m.n % m.rs = 0 then 0 else lcp (bytesOf e.f0) (bytesOf m.last)
def pushM (m : Mk) (e : En) : Mk := ⟨m.rs, m.data ++ encE (sharedM m e) e, if m.n % m.rs = 0 then m.places ++ [m.data.length] else m.places, m.n + 1, e.f0⟩
/-- What Add answers, and the maker behind it. -/
def addM (m : Mk) (e : En) : Int × Mk := if wrongE e ≠ 0 then (wrongE e, m) else if 0 < m.n ∧ leK e.f0 m.last = true then (90, m) else (0, pushM m e)
def bodyM (m : Mk) : List Int := m.data ++ (m.places.flatMap fun (p : Nat) => fourL (p : Int)) ++ fourL (m.places.length : Int)
def bytesM (m : Mk) : List Int := bodyM m ++ fourL (sumF (bodyM m))
/-- A maker takes all of some entries. -/
def addsM : Mk → List En → Option Mk
  | m, [] => some m
  | m, e :: l => if (addM m e).1 = 0 then addsM (addM m e).2 l else none
/-- What a maker takes of some entries, and the maker behind them. -/
def madeM : Mk → List En → List En × Mk
  | m, [] => ([], m)
  | m, e :: l => if (addM m e).1 = 0 then (e :: (madeM (addM m e).2 l).1, (madeM (addM m e).2 l).2) else madeM (addM m e).2 l
/-- Open: the entries and the restart. -/
def openB (b : List Int) : Option (List En × Nat) :=
  match readB b with
  | none => none
  | some (es, rs) =>
    match addsM (newM (rs : Int)) es with
    | none => none
    | some m => if bytesM m = b then some (es, rs) else none
def OkE (e : En) : Prop := 1 ≤ e.f0.size ∧ e.f0.size ≤ 64 ∧ 0 ≤ e.f1 ∧ e.f1 ≤ 72057594037927935 ∧ (e.f2 = false → e.f3.size ≤ 512) ∧ (e.f2 = true → e.f3.size = 0)
/-- An entry of Go's: its number is one. -/
def EnW (e : En) : Prop := 0 ≤ e.f1 ∧ e.f1 ≤ 18446744073709551615
theorem okE_of {e : En} (h : wrongE e = 0) (hw : EnW e) : OkE e := by
  unfold wrongE at h
  split at h
  · simp at h
  · split at h
    · simp at h
    · split at h
      · simp at h
      · split at h
        · simp at h
        · rename_i h1 h2 h3 h4
          have h5 := hw.1
          refine ⟨by omega, by omega, h5, ?_, fun hf => ?_, fun ht => ?_⟩
          · rcases Int.lt_or_le 72057594037927935 e.f1 with h | h
            · exact absurd (.inl h) h4
            · exact h
          · rcases Nat.lt_or_ge 512 e.f3.size with h | h
            · exact absurd ⟨hf, h⟩ h3
            · exact h
          · rcases Nat.eq_zero_or_pos e.f3.size with h | h
            · exact h
            · exact absurd (.inr ⟨ht, by omega⟩) h4
theorem lcp_le (a : List Int) : ∀ b, lcp a b ≤ a.length ∧ lcp a b ≤ b.length ∧ a.take (lcp a b) = b.take (lcp a b) := by
  induction a with
  | nil => intro b; simp [lcp]
  | cons x a ih =>
    intro b
    cases b with
    | nil => simp [lcp]
    | cons y b =>
      unfold lcp
      split
      · rename_i h
        obtain ⟨h1, h2, h3⟩ := ih b
        refine ⟨by simp; omega, by simp; omega, ?_⟩
        rw [List.take_succ_cons, List.take_succ_cons, h3, h]
      · simp
theorem bytesOf_inj {a b : ByteArray} (h : bytesOf a = bytesOf b) : a = b := by
  have := congrArg strOfNums h
  rwa [str_bytes, str_bytes] at this
theorem bytesOf_extract (s : ByteArray) (i j : Nat) : bytesOf (s.extract i j) = ((bytesOf s).take j).drop i := by
  unfold bytesOf
  rw [ByteArray.data_extract, Array.toList_extract, List.extract_eq_take_drop, List.map_take, List.map_drop, List.drop_take]
theorem bytesOf_append (a b : ByteArray) : bytesOf (a ++ b) = bytesOf a ++ bytesOf b := by
  unfold bytesOf
  rw [ByteArray.data_append, Array.toList_append, List.map_append]
theorem bytes_strOf {l : List Int} (h : Bytes l) : bytesOf (strOfNums l) = l := by
  unfold bytesOf strOfNums
  simp only [List.map_map]
  conv => rhs; rw [← List.map_id l]
  apply List.map_congr_left
  intro x hx
  have h1 := h x hx
  simp only [Function.comp, id, UInt8.toNat_ofNat']
  omega
theorem drop_more {L : List Int} {a n : Nat} {x r : List Int} (h : L.drop a = x ++ r) (hn : x.length = n) : L.drop (a + n) = r := by
  rw [← List.drop_drop, h, ← hn, List.drop_left]
theorem numsR_num (k : Nat) (L : List Int) (a x : Nat) (r : List Int) (acc : List Nat) (h : L.drop a = numL x ++ r) (hx : x < 18446744073709551616) : numsR (k + 1) L a acc = numsR k L (a + (numL x).length) (acc ++ [x]) := by
  rw [numsR_step, h, uintN_numL x r hx]
  simp
theorem markE_lt {e : En} (h : OkE e) : markE e < 144115188075855872 := by
  obtain ⟨h1, h2, h3, h4, h5, h6⟩ := h
  unfold markE
  split <;> omega
/-- An entry's bytes are read again. -/
theorem entry_again (n : Nat) (e : En) (ahead : ByteArray) (more : List Int) (h : OkE e) (hn : n ≤ e.f0.size) (ha : n ≤ ahead.size) (hp : (bytesOf e.f0).take n = (bytesOf ahead).take n) : entryL (encE n e ++ more) ahead = some (e, (encE n e).length) := by
  have hm := markE_lt h
  obtain ⟨h1, h2, h3, h4, h5, h6⟩ := h
  obtain ⟨L, hL⟩ : ∃ L, encE n e ++ more = L := ⟨_, rfl⟩
  have hL' := hL
  unfold encE at hL'
  simp only [List.append_assoc] at hL'
  have d0 : L.drop 0 = numL n ++ (numL (e.f0.size - n) ++ (numL (markE e) ++ ((bytesOf e.f0).drop n ++ ((if e.f2 = true then [] else txL e.f3) ++ more)))) := by rw [← hL']; rfl
  have d1 := drop_more d0 rfl
  have d2 := drop_more d1 rfl
  have d3 := drop_more d2 rfl
  have hkl : ((bytesOf e.f0).drop n).length = e.f0.size - n := by rw [List.length_drop, bytesOf_length]
  have d4 := drop_more d3 hkl
  have hlen : (encE n e).length = (numL n).length + (numL (e.f0.size - n)).length + (numL (markE e)).length + (e.f0.size - n) + (if e.f2 = true then [] else txL e.f3).length := by
    unfold encE
    simp only [List.length_append, hkl]
    omega
  obtain ⟨a, ha3⟩ : ∃ a, 0 + (numL n).length + (numL (e.f0.size - n)).length + (numL (markE e)).length = a := ⟨_, rfl⟩
  rw [ha3] at d3 d4
  have hE : (encE n e).length = a + (e.f0.size - n) + (if e.f2 = true then [] else txL e.f3).length := by rw [hlen]; omega
  have hN : numsR 3 L 0 [] = some ([n, e.f0.size - n, markE e], a) := by
    rw [numsR_num 2 L 0 n _ [] d0 (by omega), numsR_num 1 L _ _ _ _ d1 (by omega), numsR_num 0 L _ _ _ _ d2 (by omega), ha3]
    rfl
  have hLl : L.length = (encE n e).length + more.length := by rw [← hL, List.length_append]
  rw [hL]
  unfold entryL
  rw [hN]
  have g0 : [n, e.f0.size - n, markE e].getD 0 0 = n := rfl
  have g1 : [n, e.f0.size - n, markE e].getD 1 0 = e.f0.size - n := rfl
  have g2 : [n, e.f0.size - n, markE e].getD 2 0 = markE e := rfl
  simp only [g0, g1, g2]
  rw [if_neg (by omega)]
  have hmid : (L.take (a + (e.f0.size - n))).drop a = (bytesOf e.f0).drop n := by
    rw [List.drop_take, d3, Nat.add_sub_cancel_left, ← hkl, List.take_left']
    rfl
  have hkey : ahead.extract 0 n ++ strOfNums ((L.take (a + (e.f0.size - n))).drop a) = e.f0 := by
    apply bytesOf_inj
    rw [bytesOf_append, bytesOf_extract, hmid, List.drop_zero, bytes_strOf, ← hp, List.take_append_drop]
    intro y hy
    have := List.mem_of_mem_drop hy
    simp only [bytesOf, List.mem_map] at this
    obtain ⟨b, _, rfl⟩ := this
    have := b.toNat_lt
    omega
  rw [hkey]
  cases hd : e.f2 with
  | true =>
    have hm2 : markE e = 2 * e.f1.toNat + 1 := by unfold markE; rw [hd]; rfl
    rw [if_pos (by omega)]
    have hz : e.f3 = (⟨#[]⟩ : ByteArray) := by
      have := h6 hd
      apply bytesOf_inj
      apply List.eq_nil_of_length_eq_zero
      rw [bytesOf_length]
      exact this
    have h7 : ((markE e / 2 : Nat) : Int) = e.f1 := by omega
    have hk : (encE n e).length = a + (e.f0.size - n) := by rw [hE, hd]; rfl
    rw [h7, hk]
    have he : (⟨e.f0, e.f1, true, (⟨#[]⟩ : ByteArray)⟩ : En) = e := by rw [← hd, ← hz]
    rw [he]
  | false =>
    have hm2 : markE e = 2 * e.f1.toNat := by unfold markE; rw [hd]; rfl
    rw [if_neg (by omega)]
    have h7 : ((markE e / 2 : Nat) : Int) = e.f1 := by omega
    rw [hd] at d4
    simp only [Bool.false_eq_true, if_false] at d4
    unfold txL at d4
    have h8 := h5 hd
    have hT := textL_laid e.f3 512 more (by omega) (by omega)
    have hk : (encE n e).length = a + (e.f0.size - n) + (txL e.f3).length := by rw [hE, hd]; rfl
    rw [d4, hT, h7, hk]
    have he : (⟨e.f0, e.f1, false, e.f3⟩ : En) = e := by rw [← hd]
    simp only [Int.toNat_natCast]
    rw [if_neg (by decide), he]
    rfl
end Go.Proofs.YtaonjmkfbfhanaaDoor.Bk
