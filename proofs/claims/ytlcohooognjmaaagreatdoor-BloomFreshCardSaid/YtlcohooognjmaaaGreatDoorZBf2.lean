/- Lemmas of this claim's own, put together: Own, Spec, GSum, GConvB, Crc, BlP, QBlx0, QBlx8, QBlx14, BlW, Wk, KbA, KbB, KbC. -/
import Derived.Test.YtlcohooognjmaaaGreatDoorProg
import Derived.Test.YtlcohooognjmaaaGreatDoorZBf1
import Derived.Deep.DeepMust
import Derived.OrdersHeld
import Derived.Deep.QuietTactic
import Derived.BigQuiet
import Derived.Laws.BitsAllLaws
import Derived.Below
import Derived.Deep.Draws
import Derived.Deep.AppendLies
import Derived.Maps.AppendAt
import Derived.OwnWalk
import Derived.Laws.BytesArg
import Derived.Laws.MakeOwn
import Derived.Laws.OwnMore
import Derived.Deep.OwnRows
import Derived.Tactics
import Derived.Lib.ConvBytes
import Derived.Laws.Slices
import Derived.WalkKit
import Derived.KernelRfl
import Derived.RowKit3
import Derived.Deep.LoopGhost
import Derived.WideLaws
import Derived.Deep.DeepCutAuto
import Derived.Deep.CutBlock
import Derived.Deep.RegionHeld3
import Derived.Laws.Rows
import Derived.Lib.AppendStr
import Derived.ArgAppend
import Derived.Laws.IdiomCopy
import Derived.Laws.BitsLemmas
import Derived.RowKit
import Derived.Deep.RegionWith
import Derived.Deep.RegionLaw
namespace Go.Proofs.YtlcohooognjmaaaGreatDoor.Own
open Go.RowKit Go.Proofs.YtlcohooognjmaaaGreatDoorW.PrintWords
set_option linter.unusedVariables false
/-- The numbers of the table of four bits' sums. -/
def nibs : List Int := [0, 274646895, 549293790, 820201905, 1098587580, 1361435347, 1640403810, 1905808397, 2197175160, 2460548119, 2722870694, 2987750089, 3280807620, 3553878443, 3811616794, 4084100981]
/-- The table lies in the world as the program's text lays it. -/
def GT (w : World) : Prop := ∀ i : Nat, i < 16 → w.cell? ⟨0, i, none⟩ = some (.int .u32 (nibs.getD i 0))
theorem GT.below {w w1 : World} (h : GT w) (hb : Below w.heap.size w w1) : GT w1 := fun i hi => pw_cell_below hb (h i hi)
theorem GT.drewN {w : World} (h : GT w) (n : Nat) : GT (w.drewN n) := h
def Bytes (l : List Int) : Prop := ∀ x ∈ l, 0 ≤ x ∧ x ≤ 255
/-- 'make([]T, n, c)', T a scalar: n zeros, room for c. -/
theorem R_make_cap {P : Program} {ops : Array Oper} {rest : List Oper} {o : Oper} {a : Act} {Q : Exit → Act → World → Prop} {α : Type} {enc : α → Value} {h1 : ∀ x, (enc x).oneCell' = true}
    {w0 W : World} (base e : Nat) (hgd : o.guard = none) {N : Tmp} (hd : o.dst = some N) (t : TypeId) (x y : Operand) (ho : o.op = .makeSlice t x y) (n c : Int) (hx : a.eval x = .int .i64 n) (hy : a.eval y = .int .i64 c)
    (ht : P.underlying t = some (.slice e)) (z0 : α) (bytes : Nat) (hinfo : (P.info? e).map (fun i => (i.zero, i.size, i.bytes)) = some (some (enc z0), 1, bytes)) (hz : (enc z0).cells = #[enc z0]) (hb0 : 0 < bytes)
    {ok : Nat → Prop} (hfresh : ok W.heap.size) (h0 : 0 ≤ n) (hnc : n ≤ c) (hl : c.toNat * bytes ≤ 281474976710656) (HB : Below base w0 W) (hbase : base ≤ W.heap.size)
    (h : ∀ v1 w1, (Kd.scalar enc h1).R e w1 base ok v1 (List.replicate n.toNat z0) → Below base w0 w1 → W.grownBy w1 none → (∃ b, v1.ownBlock = some b ∧ W.heap.size ≤ b) → wpList P ops Q rest (a.put o.dst v1) w1) : wpList P ops Q (o :: rest) a W := by
  obtain ⟨m, rfl⟩ := Int.eq_ofNat_of_zero_le h0
  obtain ⟨k, rfl⟩ := Int.eq_ofNat_of_zero_le (Int.le_trans h0 hnc)
  simp only [Int.toNat_natCast] at hl h
  obtain ⟨i0, hi, hzz⟩ := Option.map_eq_some_iff.1 hinfo
  simp only [Prod.mk.injEq] at hzz
  obtain ⟨hz0, hz1, hz2⟩ := hzz
  have hk : k ≤ 281474976710656 := Nat.le_trans (Nat.le_mul_of_pos_right _ hb0) hl
  have hmk : m ≤ k := by omega
  have hr := run_make (P := P) W t e i0 (enc z0) ht hi hz0 .i64 .i64 (m : Int) (k : Int) (by omega) (by omega)
    (by
      have h3 : ((i0.bytes * k : Nat) : Int) ≤ 281474976710656 := by rw [hz2, Nat.mul_comm]; omega
      rwa [Int.natCast_mul] at h3) (by omega)
  simp only [Int.toNat_natCast] at hr
  rw [hz1, Nat.mul_one] at hr
  refine Kd.event_run (v := .slice (some ⟨W.heap.size, 0, none⟩) m k) (w1 := W.alloc (.cells (madeCells (enc z0).cells k) e)) hgd ?_ (h _ _ ⟨fun q hq => ?_, (madeCells (enc z0).cells m).toList, ?_, ?_⟩ (HB.alloc hbase _) (World.grownBy_alloc W _ none) ⟨W.heap.size, by simp [Value.ownBlock], Nat.le_refl _⟩)
  · simp [execOp, ho, hx, hy, hr]
  · have : W.heap.size = q := by simpa [Value.ownBlock] using hq
    subst this
    exact hfresh
  · refine ⟨by simp [size_madeCells, Kd.scalar], .inr ⟨W.heap.size, k, madeCells (enc z0).cells k, by simp, hbase, heap_alloc_new W _, by simpa using hmk, by simp [maxLen]; omega, by simp [size_madeCells, Kd.scalar], ?_⟩⟩
    rw [hz]
    apply List.ext_getElem
    · simp [size_madeCells, Kd.scalar]; omega
    · intro i h1 h2
      simp [madeCells, Nat.mod_one]
  · have := Kd.reps_made (R := (Kd.scalar enc h1).M W base (fun k => ok k ∧ some k ≠ (Value.slice (some ⟨W.heap.size, 0, none⟩) m k).ownBlock)) (z := enc z0) (size := 1) (z0 := z0) (by rw [hz]; rfl) (by decide) (by rw [hz]; rfl) m
    rw [Nat.mul_one] at this
    exact this
end Go.Proofs.YtlcohooognjmaaaGreatDoor.Own
namespace Go.Proofs.YtlcohooognjmaaaGreatDoor.Own
open Go.RowKit Go.Proofs.YtlcohooognjmaaaGreatDoorW.PrintWords Go.Proofs.YtlcohooognjmaaaGreatDoorW.PrintMore
set_option linter.unusedVariables false
def okB (l : List Int) : Bool := l.all fun x => decide (0 ≤ x ∧ x ≤ 255)
theorem okB_iff {l : List Int} : okB l = true ↔ Bytes l := by simp [okB, Bytes, List.all_eq_true]
end Go.Proofs.YtlcohooognjmaaaGreatDoor.Own
namespace Go.Proofs.YtlcohooognjmaaaGreatDoor.G
open Go.RowKit Go.Proofs.YtlcohooognjmaaaGreatDoorW.PrintWords Go.Proofs.YtlcohooognjmaaaGreatDoor.Own
set_option linter.unusedVariables false
def nibv (x : Int) : Int := nibs.getD x.toNat 0
def sum1 (x : Int) : Int := bits .xor .u32 (nibv (bits .and .u32 x 15)) (x / 16)
def sumc (x c : Int) : Int := sum1 (sum1 (bits .xor .u32 x c))
def sumf (l : List Int) : Int := l.foldl sumc 4294967295
def sumF (l : List Int) : Int := bits .xor .u32 4294967295 (sumf l)
def U32 (x : Int) : Prop := 0 ≤ x ∧ x < 4294967296
theorem u32_xor_range {x y : Int} (hx : U32 x) (hy : U32 y) : U32 (bits .xor .u32 x y) := by
  obtain ⟨a, rfl⟩ := Int.eq_ofNat_of_zero_le hx.1
  obtain ⟨b, rfl⟩ := Int.eq_ofNat_of_zero_le hy.1
  have ha : a < 2 ^ 32 := by have := hx.2; omega
  have hb : b < 2 ^ 32 := by have := hy.2; omega
  rw [u32_xor_nat a b (by omega) (by omega)]
  have := Nat.xor_lt_two_pow ha hb
  constructor <;> omega
theorem and15 {x : Int} (hx : U32 x) : bits .and .u32 x 15 = x % 16 := by
  obtain ⟨a, rfl⟩ := Int.eq_ofNat_of_zero_le hx.1
  rw [show (15 : Int) = ((15 : Nat) : Int) from rfl, u32_and_nat a 15 (by have := hx.2; omega) (by omega)]
  have : a &&& 15 = a % 16 := Nat.and_two_pow_sub_one_eq_mod a 4
  omega
theorem nibv_range (x : Int) : U32 (nibv x) := by
  unfold nibv
  generalize x.toNat = n
  rcases Nat.lt_or_ge n 16 with h | h
  · have : n = 0 ∨ n = 1 ∨ n = 2 ∨ n = 3 ∨ n = 4 ∨ n = 5 ∨ n = 6 ∨ n = 7 ∨ n = 8 ∨ n = 9 ∨ n = 10 ∨ n = 11 ∨ n = 12 ∨ n = 13 ∨ n = 14 ∨ n = 15 := by omega
    rcases this with rfl | rfl | rfl | rfl | rfl | rfl | rfl | rfl | rfl | rfl | rfl | rfl | rfl | rfl | rfl | rfl <;> simp [nibs, U32]
  · rw [List.getD_eq_getElem?_getD, List.getElem?_eq_none (by simpa [nibs] using h)]
    simp [U32]
theorem sum1_range {x : Int} (hx : U32 x) : U32 (sum1 x) := u32_xor_range (nibv_range _) ⟨by have := hx.1; omega, by have := hx.2; omega⟩
theorem sumc_range {x c : Int} (hx : U32 x) (hc : 0 ≤ c ∧ c ≤ 255) : U32 (sumc x c) := sum1_range (sum1_range (u32_xor_range hx ⟨hc.1, by omega⟩))
theorem foldl_range (l : List Int) (x : Int) (hx : U32 x) (hl : Bytes l) : U32 (l.foldl sumc x) := by
  induction l generalizing x with
  | nil => exact hx
  | cons c l ih => exact ih _ (sumc_range hx (hl c (by simp))) (fun y hy => hl y (by simp [hy]))
theorem sumf_range {l : List Int} (hl : Bytes l) : U32 (sumf l) := foldl_range l _ (by simp [U32]) hl
theorem sumf_snoc (l : List Int) (k : Nat) (h : k < l.length) : sumf (l.take (k + 1)) = sumc (sumf (l.take k)) (rd l k) := by
  unfold sumf
  rw [List.take_succ_eq_append_getElem h, List.foldl_append]
  simp [rd, List.getD_eq_getElem?_getD, h]
theorem bytes_rd {l : List Int} (hl : Bytes l) (k : Nat) (h : k < l.length) : 0 ≤ rd l k ∧ rd l k ≤ 255 := by
  simp only [rd, Int.toNat_natCast, List.getD_eq_getElem?_getD, List.getElem?_eq_getElem h, Option.getD_some]
  exact hl _ (List.getElem_mem h)
theorem cellT {w : World} (h : GT w) {x : Int} (hx : U32 x) : 0 ≤ bits .and .u32 x 15 ∧ bits .and .u32 x 15 < 16 ∧ w.cell? ⟨0, (bits .and .u32 x 15).toNat, none⟩ = some (.int .u32 (nibv (bits .and .u32 x 15))) := by
  rw [and15 hx]
  exact ⟨by omega, by omega, h _ (by omega)⟩
set_option maxHeartbeats 400000 in
theorem sum_calls (A0 : Option Addr) (c0 : Nat) (l0 : List Int) (w : World) (hr0 : Kd.C (Kd.int .u8) w A0 l0.length l0) (hc0 : l0.length ≤ c0) (hl : Bytes l0) (hT : GT w) :
    Calls Tryz.prog 12 #[.slice A0 l0.length c0] w fun e w' => e = .returned (.int .u32 (sumF l0)) ∧ w' = w := by
  have hm := hr0.2.1
  have HR0 := Aside0.mk hr0
  have HT := Aside0.mk hT
  have HL := Aside0.mk hl
  clear hr0 hT hl
  go_enter Tryz.func12, Tryz.ntmps12
  go_wp2
  go_loop [3, 8] (fun x i => ∃ k : Nat, k ≤ l0.length ∧ i = .int .i64 k ∧ x = .int .u32 (sumf (l0.take k))) (fun _ i => l0.length - (intOf i).toNat)
  case atStart => exact ⟨0, Nat.zero_le _, rfl, rfl⟩
  case round =>
    obtain ⟨k, hk, rfl, rfl⟩ := hrel
    by_cases hlt : k < l0.length
    · obtain ⟨x, hx⟩ : ∃ x, x = sumf (l0.take k) := ⟨_, rfl⟩
      rw [← hx]
      have HX := Aside0.mk hx
      have hxb : U32 x := by rw [hx]; exact sumf_range (fun y hy => HL.out y (List.mem_of_mem_take hy))
      clear hx
      obtain ⟨ad, e1, hcell⟩ := Kd.at_int HR0.out (k : Int) (by omega) (by omega)
      cases e1
      simp only [Int.toNat_natCast] at hcell
      have HC := Aside0.mk (bytes_rd HL.out k hlt)
      obtain ⟨c, hc⟩ : ∃ c, c = rd l0 k := ⟨_, rfl⟩
      rw [← hc] at hcell
      have hcb := HC.out
      rw [← hc] at hcb
      have hy := u32_xor_range hxb ⟨hcb.1, by omega⟩
      have HCC := Aside0.mk hc
      clear hc HC
      obtain ⟨p1, p2, p3⟩ := cellT HT.out hy
      obtain ⟨q1, q2, q3⟩ := cellT HT.out (sum1_range hy)
      have HF := Aside0.mk (sumf_snoc l0 k hlt)
      have hcb1 := hcb.1
      have hcb2 := hcb.2
      have HY := Aside0.mk hy
      have HXB := Aside0.mk hxb
      unfold sum1 at q1 q2 q3
      clear hcb hy hxb
      go_wp2
      go_round
      case rel => exact ⟨k + 1, by omega, by go_num, by rw [HF.out, ← HX.out, ← HCC.out]; rfl⟩
      case measure => simp [intOf]; omega
    · have HXB := Aside0.mk (sumf_range HL.out)
      have HK : l0.take k = l0 := List.take_of_length_le (by omega)
      rw [HK]
      clear HK
      go_wp2
      go_ret
      exact ⟨rfl, rfl⟩
end Go.Proofs.YtlcohooognjmaaaGreatDoor.G
namespace Go.Proofs.YtlcohooognjmaaaGreatDoor.G
open Go.RowKit Go.Proofs.YtlcohooognjmaaaGreatDoorW.PrintWords Go.Proofs.YtlcohooognjmaaaGreatDoor.Own
set_option linter.unusedVariables false
end Go.Proofs.YtlcohooognjmaaaGreatDoor.G
namespace Go.Proofs.YtlcohooognjmaaaGreatDoor.G
open Go.RowKit Go.Proofs.YtlcohooognjmaaaGreatDoorW.PrintWords Go.Proofs.YtlcohooognjmaaaGreatDoor.Own
set_option linter.unusedVariables false
end Go.Proofs.YtlcohooognjmaaaGreatDoor.G
namespace Go.Proofs.YtlcohooognjmaaaGreatDoor.Bl
open Go.RowKit Go.Proofs.YtlcohooognjmaaaGreatDoorW.PrintWords Go.Proofs.YtlcohooognjmaaaGreatDoorW.PrintMore Go.Proofs.YtlcohooognjmaaaGreatDoor.Own Go.Proofs.YtlcohooognjmaaaGreatDoor.G
set_option linter.unusedVariables false
def rotN (h : Nat) : Nat := h / 131072 + h % 131072 * 32768
/-- The place number i of a sum h, over m places. -/
def prb (h i m : Nat) : Nat := (h + i * rotN h) % 4294967296 % m
/-- A bit set. -/
def setB (l : List Int) (p : Nat) : List Int := l.set (p / 8) (bits .or .u8 (rd l ((p / 8 : Nat) : Int)) ((2 ^ (p % 8) : Nat) : Int))
/-- Is it set? -/
def hasB (l : List Int) (p : Nat) : Bool := decide ((rd l ((p / 8 : Nat) : Int)).toNat / 2 ^ (p % 8) % 2 = 1)
def hashS (s : ByteArray) : Nat := (sumF (bytesOf s)).toNat
def spotsL (h k m : Nat) : List Nat := (List.range k).map fun i => prb h i m
def keyB (k m : Nat) (l : List Int) (s : ByteArray) : List Int := (spotsL (hashS s) k m).foldl setB l
def places (n size : Nat) : Nat := min (max ((n * size + 7) / 8 * 8) 64) 1048576
def probesN (size : Nat) : Nat := max (size * 69 / 100) 1
def makeN (keys : List ByteArray) (size : Nat) : List Int := keys.foldl (keyB (probesN size) (places keys.length size)) (List.replicate (places keys.length size / 8) 0) ++ [((probesN size : Nat) : Int)]
def makeL (keys : List ByteArray) (b : Int) : List Int := if b < 1 ∨ keys = [] then [] else makeN keys (min b.toNat 16)
def mayL (f : List Int) (s : ByteArray) : Bool := if f.length < 9 then true else if (rd f ((f.length - 1 : Nat) : Int)).toNat = 0 ∨ 11 < (rd f ((f.length - 1 : Nat) : Int)).toNat then true else (spotsL (hashS s) (rd f ((f.length - 1 : Nat) : Int)).toNat (8 * (f.length - 1))).all (hasB f)
theorem setB_len (l : List Int) (p : Nat) : (setB l p).length = l.length := by simp [setB]
theorem bytes_str (s : ByteArray) : Bytes (bytesOf s) := fun y hy => by
  simp only [bytesOf, List.mem_map] at hy
  obtain ⟨b, _, rfl⟩ := hy
  have := b.toNat_lt
  constructor <;> omega
theorem hash_lt (s : ByteArray) : hashS s < 4294967296 := by
  have h : U32 (sumF (bytesOf s)) := u32_xor_range (by simp [U32]) (sumf_range (bytes_str s))
  have h1 := h.1
  have h2 := h.2
  unfold hashS
  omega
theorem hashS_eq (s : ByteArray) : sumF (bytesOf s) = ((hashS s : Nat) : Int) := by
  have h : U32 (sumF (bytesOf s)) := u32_xor_range (by simp [U32]) (sumf_range (bytes_str s))
  have h1 := h.1
  unfold hashS
  omega
theorem rd_bytes {l : List Int} (hl : Bytes l) (k : Nat) : 0 ≤ rd l (k : Int) ∧ rd l (k : Int) ≤ 255 := by
  by_cases h : k < l.length
  · exact bytes_rd hl k h
  · simp [rd, List.getD_eq_getElem?_getD, List.getElem?_eq_none (Nat.le_of_not_lt h)]
theorem two8 (p : Nat) : 2 ^ (p % 8) < 256 := Nat.lt_of_le_of_lt (Nat.pow_le_pow_right (by decide) (show p % 8 ≤ 7 by omega)) (by decide)
theorem or_nat {l : List Int} (hl : Bytes l) (p : Nat) : bits .or .u8 (rd l ((p / 8 : Nat) : Int)) ((2 ^ (p % 8) : Nat) : Int) = (((rd l ((p / 8 : Nat) : Int)).toNat ||| 2 ^ (p % 8) : Nat) : Int) := by
  obtain ⟨a, ha⟩ := Int.eq_ofNat_of_zero_le (rd_bytes hl (p / 8)).1
  have h2 := (rd_bytes hl (p / 8)).2
  have := two8 p
  rw [ha, u8_or_nat a _ (by omega) (by omega), Int.toNat_natCast]
theorem setB_bytes {l : List Int} (hl : Bytes l) (p : Nat) : Bytes (setB l p) := fun y hy => by
  rcases List.mem_or_eq_of_mem_set hy with h1 | rfl
  · exact hl y h1
  · rw [or_nat hl]
    have h1 := (rd_bytes hl (p / 8))
    have h2 := two8 p
    have h3 : (rd l ((p / 8 : Nat) : Int)).toNat ||| 2 ^ (p % 8) < 2 ^ 8 := Nat.or_lt_two_pow (by omega) h2
    constructor <;> omega
theorem rd_set (l : List Int) (j k : Nat) (x : Int) (h : j < l.length) : rd (l.set j x) (k : Int) = if k = j then x else rd l (k : Int) := by
  simp only [rd, Int.toNat_natCast, List.getD_eq_getElem?_getD]
  by_cases e : k = j
  · subst e
    simp [h]
  · rw [if_neg e, List.getElem?_set_ne (Ne.symm e)]
theorem bit_or (a s t : Nat) : (a ||| 2 ^ s) / 2 ^ t % 2 = 1 ↔ (a / 2 ^ t % 2 = 1 ∨ s = t) := by
  have h1 := Nat.testBit_eq_decide_div_mod_eq (x := a ||| 2 ^ s) (i := t)
  have h2 := Nat.testBit_eq_decide_div_mod_eq (x := a) (i := t)
  rw [Nat.testBit_or, Nat.testBit_two_pow, h2] at h1
  by_cases hs : s = t <;> simp [hs] at h1 ⊢ <;> first | exact h1 | exact h1.symm | simpa using h1.symm
theorem hasB_set {l : List Int} (hl : Bytes l) (p q : Nat) (h : p / 8 < l.length) : hasB (setB l p) q = (hasB l q || decide (p = q)) := by
  unfold hasB setB
  rw [rd_set l _ _ _ h]
  by_cases e : q / 8 = p / 8
  · rw [if_pos e, or_nat hl, Int.toNat_natCast, e]
    have := bit_or (rd l ((p / 8 : Nat) : Int)).toNat (p % 8) (q % 8)
    have e2 : p % 8 = q % 8 ↔ p = q := ⟨fun h => by omega, fun h => by rw [h]⟩
    rw [e2] at this
    simp only [this, Bool.decide_or]
  · rw [if_neg e]
    have : p ≠ q := fun h => e (by rw [h])
    simp [this]
theorem fold_len (ps : List Nat) : ∀ l : List Int, (ps.foldl setB l).length = l.length := by
  induction ps with
  | nil => intro l; rfl
  | cons p ps ih => intro l; rw [List.foldl_cons, ih, setB_len]
theorem fold_has (ps : List Nat) : ∀ l : List Int, Bytes l → (∀ p ∈ ps, p / 8 < l.length) → ∀ q, hasB (ps.foldl setB l) q = (hasB l q || decide (q ∈ ps)) := by
  induction ps with
  | nil => intro l _ _ q; simp
  | cons p ps ih =>
    intro l hl hp q
    rw [List.foldl_cons, ih (setB l p) (setB_bytes hl p) (fun x hx => by rw [setB_len]; exact hp x (List.mem_cons_of_mem _ hx)) q, hasB_set hl p q (hp p List.mem_cons_self)]
    by_cases e : p = q
    · subst e; simp
    · have e2 : ¬ q = p := fun h => e h.symm
      simp [e, e2]
theorem prb_lt (h i m : Nat) (hm : 0 < m) : prb h i m < m := Nat.mod_lt _ hm
theorem spots_lt {h k m p : Nat} (hm : 0 < m) (hp : p ∈ spotsL h k m) : p < m := by
  simp only [spotsL, List.mem_map] at hp
  obtain ⟨i, _, rfl⟩ := hp
  exact prb_lt h i m hm
theorem places_ge (n size : Nat) : 64 ≤ places n size ∧ places n size ≤ 1048576 ∧ places n size % 8 = 0 := by
  unfold places
  omega
/-- All places of a list of keys. -/
def allSpots (keys : List ByteArray) (k m : Nat) : List Nat := keys.flatMap fun s => spotsL (hashS s) k m
theorem keys_fold (k m : Nat) (keys : List ByteArray) : ∀ l : List Int, keys.foldl (keyB k m) l = (allSpots keys k m).foldl setB l := by
  induction keys with
  | nil => intro l; rfl
  | cons s keys ih => intro l; rw [List.foldl_cons, ih]; simp [allSpots, keyB, List.foldl_append]
theorem allSpots_lt {keys : List ByteArray} {k m p : Nat} (hm : 0 < m) (hp : p ∈ allSpots keys k m) : p < m := by
  simp only [allSpots, List.mem_flatMap] at hp
  obtain ⟨s, _, hp⟩ := hp
  exact spots_lt hm hp
theorem zeros_bytes (n : Nat) : Bytes (List.replicate n (0 : Int)) := fun y hy => by
  rw [List.mem_replicate] at hy
  rw [hy.2]
  constructor <;> omega
theorem zeros_has (n q : Nat) : hasB (List.replicate n (0 : Int)) q = false := by
  unfold hasB
  have : rd (List.replicate n (0 : Int)) ((q / 8 : Nat) : Int) = 0 := by
    simp only [rd, Int.toNat_natCast, List.getD_eq_getElem?_getD]
    by_cases h : q / 8 < n
    · simp [h]
    · rw [List.getElem?_eq_none (by simpa using h)]; rfl
  rw [this]
  simp
/-- The bits' part of a filter. -/
def bodyN (keys : List ByteArray) (size : Nat) : List Int := keys.foldl (keyB (probesN size) (places keys.length size)) (List.replicate (places keys.length size / 8) 0)
theorem body_len (keys : List ByteArray) (size : Nat) : (bodyN keys size).length = places keys.length size / 8 := by
  unfold bodyN
  rw [keys_fold, fold_len, List.length_replicate]
theorem body_has (keys : List ByteArray) (size q : Nat) : hasB (bodyN keys size) q = decide (q ∈ allSpots keys (probesN size) (places keys.length size)) := by
  unfold bodyN
  have h := places_ge keys.length size
  rw [keys_fold, fold_has _ _ (zeros_bytes _) (fun p hp => by have := allSpots_lt (by omega) hp; rw [List.length_replicate]; omega), zeros_has, Bool.false_or]
theorem make_form (keys : List ByteArray) (size : Nat) : makeN keys size = bodyN keys size ++ [((probesN size : Nat) : Int)] := rfl
theorem make_len (keys : List ByteArray) (size : Nat) : (makeN keys size).length = places keys.length size / 8 + 1 := by rw [make_form, List.length_append, body_len]; rfl
theorem rd_left (a b : List Int) (k : Nat) (h : k < a.length) : rd (a ++ b) (k : Int) = rd a (k : Int) := by
  simp only [rd, Int.toNat_natCast, List.getD_eq_getElem?_getD]
  rw [List.getElem?_append_left h]
theorem rd_last (a : List Int) (x : Int) : rd (a ++ [x]) ((a.length : Nat) : Int) = x := by
  simp [rd, List.getD_eq_getElem?_getD]
theorem probes_ge (size : Nat) (h : size ≤ 16) : 1 ≤ probesN size ∧ probesN size ≤ 11 := by
  unfold probesN
  omega
/-- What is asked of bits that a list has besides. -/
theorem may_at (a : List Int) (x : Int) (s : ByteArray) (k : Nat) (hx : x = (k : Int)) (hk : 1 ≤ k ∧ k ≤ 11) (ha : 8 ≤ a.length) : mayL (a ++ [x]) s = (spotsL (hashS s) k (8 * a.length)).all (hasB a) := by
  have hl : (a ++ [x]).length - 1 = a.length := by simp
  unfold mayL
  rw [hl, rd_last, if_neg (by simp; omega), hx, Int.toNat_natCast, if_neg (by omega)]
  apply Bool.eq_iff_iff.2
  simp only [List.all_eq_true]
  have : ∀ p ∈ spotsL (hashS s) k (8 * a.length), hasB (a ++ [(k : Int)]) p = hasB a p := fun p hp => by
    have := spots_lt (by omega) hp
    unfold hasB
    rw [rd_left _ _ _ (by omega)]
  exact ⟨fun h p hp => by rw [← this p hp]; exact h p hp, fun h p hp => by rw [this p hp]; exact h p hp⟩
/-- No key of the list is denied. -/
theorem holds (keys : List ByteArray) (b : Int) (s : ByteArray) (hs : s ∈ keys) : mayL (makeL keys b) s = true := by
  unfold makeL
  split
  · simp [mayL]
  · rename_i h
    have hb : ¬ b < 1 := fun e => h (.inl e)
    have hp := probes_ge (min b.toNat 16) (by omega)
    have hg := places_ge keys.length (min b.toNat 16)
    rw [make_form, may_at _ _ _ _ rfl hp (by rw [body_len]; omega), body_len]
    have e : 8 * (places keys.length (min b.toNat 16) / 8) = places keys.length (min b.toNat 16) := by omega
    rw [e, List.all_eq_true]
    intro p hpm
    rw [body_has]
    exact decide_eq_true (List.mem_flatMap.2 ⟨s, hs, hpm⟩)
theorem bit_test {l : List Int} (hl : Bytes l) (p : Nat) : (bits .and .u8 (rd l ((p : Int) / 8) / 2 ^ (p % 8)) 1 == 0) = !hasB l p := by
  have e : ((p : Int) / 8) = ((p / 8 : Nat) : Int) := by omega
  obtain ⟨a, ha⟩ := Int.eq_ofNat_of_zero_le (rd_bytes hl (p / 8)).1
  have h2 := (rd_bytes hl (p / 8)).2
  unfold hasB
  rw [e, ha, Int.toNat_natCast, show ((a : Int) / 2 ^ (p % 8)) = ((a / 2 ^ (p % 8) : Nat) : Int) by simp, show (1 : Int) = ((1 : Nat) : Int) from rfl, u8_and_nat _ _ (Nat.lt_of_le_of_lt (Nat.div_le_self _ _) (by omega)) (by omega), Nat.and_one_is_mod]
  by_cases h : a / 2 ^ (p % 8) % 2 = 1
  · rw [h]; rfl
  · rw [show a / 2 ^ (p % 8) % 2 = 0 by omega]; rfl
theorem set_eq (l : List Int) (P : Nat) : l.set ((P / 8 : Nat) : Int).toNat (bits .or .u8 (rdOf (0 : Int) l ((P : Int) / 8)) ((2 : Int) ^ (P % 8) % 256)) = setB l P := by
  unfold setB
  rw [Int.toNat_natCast, show ((P : Int) / 8) = ((P / 8 : Nat) : Int) by omega]
  have : P % 8 = 0 ∨ P % 8 = 1 ∨ P % 8 = 2 ∨ P % 8 = 3 ∨ P % 8 = 4 ∨ P % 8 = 5 ∨ P % 8 = 6 ∨ P % 8 = 7 := by omega
  rcases this with e | e | e | e | e | e | e | e <;> rw [e] <;> rfl
theorem spots_succ (h j m : Nat) : spotsL h (j + 1) m = spotsL h j m ++ [prb h j m] := by simp [spotsL, List.range_succ]
theorem keys_succ (k m : Nat) (keys : List ByteArray) (i : Nat) (h : i < keys.length) (l : List Int) : (keys.take (i + 1)).foldl (keyB k m) l = keyB k m ((keys.take i).foldl (keyB k m) l) keys[i] := by
  rw [List.take_succ_eq_append_getElem h, List.foldl_append]
  rfl
theorem own_block {W : World} {base n c e : Nat} {ok : Nat → Prop} {A : Option Addr} {l : List Int} (h : Kd.R (Kd.int .u8) e W base ok (.slice A n c) l) (hn : 0 < n) : ∃ g, A = some ⟨g, 0, none⟩ ∧ base ≤ g := by
  obtain ⟨inner, hi⟩ := Kd.R_own h
  have hl := (Kd.R_reads' h).1
  obtain ⟨_, hh⟩ := hi
  rcases hh with ⟨hv, h0⟩ | ⟨g, cap, cur, hv, hb, _⟩
  · omega
  · injection hv with e1
    exact ⟨g, e1, hb⟩
/-- '[]byte(s)': a row that reads as s's bytes; older memory stays. -/
theorem conv_bytes {P : Program} (w : World) (src dst e : TypeId) (s : ByteArray) (hs : P.underlying src = some .string) (hd : P.underlying dst = some (.slice e)) (he : P.underlying e = some (.int .u8)) (hl : s.size ≤ 9223372036854775807) :
    ∃ A c w1, (convert src dst (.string s)).run P w = .ok (.slice A (bytesOf s).length c) w1 ∧ (bytesOf s).length ≤ c ∧ Kd.C (Kd.int .u8) w1 A (bytesOf s).length (bytesOf s) ∧ Below w.heap.size w w1 := by
  refine ⟨some ⟨w.heap.size, 0, none⟩, grownCap w s.size 0 e, w.drew.alloc (.cells (bytesRow s (grownCap w s.size 0 e)) e ((bytesRow s (grownCap w s.size 0 e)).size, (bytesRow s (grownCap w s.size 0 e)).size + 1)), ?_, ?_, ?_, ?_⟩
  · rw [bytesOf_length]
    exact run_bytes_of_string w src dst e s hs hd he
  · rw [bytesOf_length]
    exact grownCap_ge w s.size 0 e
  · refine Kd.C_of_reads (enc := Value.int .u8) (d := (0 : Int)) (h1 := fun _ => rfl) ⟨rfl, by rw [bytesOf_length]; exact hl, fun hp => ⟨_, rfl, fun i hi => ?_⟩⟩
    have hi' : i < s.size := by rwa [bytesOf_length] at hi
    have hw : (w.drew).heap.size = w.heap.size := rfl
    have hb := heap_alloc_new w.drew (.cells (bytesRow s (grownCap w s.size 0 e)) e ((bytesRow s (grownCap w s.size 0 e)).size, (bytesRow s (grownCap w s.size 0 e)).size + 1))
    rw [hw] at hb
    rw [add_plain, cell_of_row _ _ i _ _ _ hb, bytesRow_at s _ i hi']
    simp [bytesOf, List.getD_eq_getElem?_getD, List.getElem?_eq_getElem (show i < s.data.toList.length from by simpa using hi')]
  · exact below_alloc (below_drew (Below.refl _ _)) _
end Go.Proofs.YtlcohooognjmaaaGreatDoor.Bl
namespace Go.Proofs.YtlcohooognjmaaaGreatDoor.QBl
open Go.Proofs.YtlcohooognjmaaaGreatDoor.Own
open Go.RowKit Go.Proofs.YtlcohooognjmaaaGreatDoorW.PrintWords Go.Proofs.YtlcohooognjmaaaGreatDoorW.PrintLast Go.Proofs.YtlcohooognjmaaaGreatDoorW.PrintMore
attribute [local go_sem] max2_int min2_int max_two min_two max_three min_three max_four min_four   -- for this text's walks alone
set_option linter.unusedVariables false
set_option linter.unusedSimpArgs false
def errW : Option Int → Value
  | none => .nilIface
  | some c => .iface 0 (.int .i64 c)
theorem errW_none : errW none = .nilIface := rfl
theorem errW_some (c : Int) : errW (some c) = .iface 0 (.int .i64 c) := rfl
theorem info5 : (Tryz.prog.info? 5).map (fun i => (i.zero, i.size, i.bytes)) = some (some (.int .u8 0), 1, 1) := by kernel_rfl
theorem info9 : (Tryz.prog.info? 9).map (fun i => (i.zero, i.size, i.bytes)) = some (some (.string ⟨#[]⟩), 1, 16) := by kernel_rfl
end Go.Proofs.YtlcohooognjmaaaGreatDoor.QBl
namespace Go.Proofs.YtlcohooognjmaaaGreatDoor.QBl
open Go.Proofs.YtlcohooognjmaaaGreatDoor.Own
open Go.RowKit Go.Proofs.YtlcohooognjmaaaGreatDoorW.PrintWords Go.Proofs.YtlcohooognjmaaaGreatDoorW.PrintLast Go.Proofs.YtlcohooognjmaaaGreatDoorW.PrintMore
attribute [local go_sem] max2_int min2_int max_two min_two max_three min_three max_four min_four   -- for this text's walks alone
set_option linter.unusedVariables false
set_option linter.unusedSimpArgs false
open Go.Proofs.YtlcohooognjmaaaGreatDoor.G
def codec_Sum.f (l0 : List Int) : Option Int := if okB l0 = true then some (sumF l0) else none
theorem codec_Sum.calls (A0 : Option Addr) (c0 : Nat) (l0 : List Int) (r : Int) (w : World) (hr0 : Kd.C (Kd.int .u8) w A0 l0.length l0) (hc0 : l0.length ≤ c0) (h : codec_Sum.f l0 = some r) (hT_ : GT w) :
    Calls Tryz.prog 12 #[.slice A0 l0.length c0] w fun e w' => e = .returned (.int .u32 r) ∧ w' = w := by
  unfold codec_Sum.f at h
  split at h
  · rename_i hh
    rw [← Option.some.inj h]
    exact Go.Proofs.YtlcohooognjmaaaGreatDoor.G.sum_calls A0 c0 l0 w hr0 hc0 (okB_iff.1 hh) hT_
  · cases h
def bits_RotateLeft32.f (a0 : Int) (a1 : Int) : Option (Int) := if 0 ≤ (Go.bits .and .u64 (IntKind.u64.wrap (a1)) 31) then (if 0 ≤ (IntKind.u64.wrap (32 - (Go.bits .and .u64 (IntKind.u64.wrap (a1)) 31))) then (some (Go.bits .or .u32 (shl .u32 a0 (Go.bits .and .u64 (IntKind.u64.wrap (a1)) 31)) (shr .u32 a0 (IntKind.u64.wrap (32 - (Go.bits .and .u64 (IntKind.u64.wrap (a1)) 31)))))) else (none)) else (none)
set_option maxHeartbeats 8000000 in
set_option maxRecDepth 100000 in
theorem bits_RotateLeft32.calls (a0 : Int) (a1 : Int) (r : Int) (w : World) (h : bits_RotateLeft32.f a0 a1 = some r) :
    Calls Tryz.prog 35 #[.int .u32 a0, .int .i64 a1] w fun e w' => e = .returned (.int .u32 r) ∧ Drawn0 w w' := by
  have H : (if 0 ≤ (Go.bits .and .u64 (IntKind.u64.wrap (a1)) 31) then (if 0 ≤ (IntKind.u64.wrap (32 - (Go.bits .and .u64 (IntKind.u64.wrap (a1)) 31))) then (some (Go.bits .or .u32 (shl .u32 a0 (Go.bits .and .u64 (IntKind.u64.wrap (a1)) 31)) (shr .u32 a0 (IntKind.u64.wrap (32 - (Go.bits .and .u64 (IntKind.u64.wrap (a1)) 31)))))) else (none)) else (none)) = some r := h
  clear h
  obtain ⟨ji3, hji3⟩ : ∃ j_ : Int, (Go.bits .and .u64 (IntKind.u64.wrap (a1)) 31) = j_ := ⟨_, rfl⟩
  replace H : (if 0 ≤ (ji3) then (if 0 ≤ (IntKind.u64.wrap (32 - (ji3))) then (some (Go.bits .or .u32 (shl .u32 a0 (ji3)) (shr .u32 a0 (IntKind.u64.wrap (32 - (ji3)))))) else (none)) else (none)) = some r := by first | (rw [hji3] at H; exact H) | (simp only [hji3] at H ⊢; exact H)
  by_cases c4 : 0 ≤ (ji3)
  · rw [if_pos c4] at H
    have c4b0 := eq_true c4
    have c4b1 : decide (0 ≤ (ji3)) = true := decide_eq_true c4
    clear c4
    obtain ⟨ji5, hji5⟩ : ∃ j_ : Int, (shl .u32 a0 (ji3)) = j_ := ⟨_, rfl⟩
    replace H : (if 0 ≤ (IntKind.u64.wrap (32 - (ji3))) then (some (Go.bits .or .u32 (ji5) (shr .u32 a0 (IntKind.u64.wrap (32 - (ji3)))))) else (none)) = some r := by first | (rw [hji5] at H; exact H) | (simp only [hji5] at H ⊢; exact H)
    have hji5_ : (IntKind.u32.wrap (a0 * 2 ^ min (ji3).toNat 32)) = ji5 := hji5
    have hji5z : (ji3) ≤ 32 → (IntKind.u32.wrap (a0 * 2 ^ (ji3).toNat)) = ji5 := shl_small hji5
    obtain ⟨ji6, hji6⟩ : ∃ j_ : Int, (IntKind.u64.wrap (32 - (ji3))) = j_ := ⟨_, rfl⟩
    replace H : (if 0 ≤ (ji6) then (some (Go.bits .or .u32 (ji5) (shr .u32 a0 (ji6)))) else (none)) = some r := by first | (rw [hji6] at H; exact H) | (simp only [hji6] at H ⊢; exact H)
    by_cases c7 : 0 ≤ (ji6)
    · rw [if_pos c7] at H
      have c7b0 := eq_true c7
      have c7b1 : decide (0 ≤ (ji6)) = true := decide_eq_true c7
      clear c7
      obtain ⟨ji8, hji8⟩ : ∃ j_ : Int, (shr .u32 a0 (ji6)) = j_ := ⟨_, rfl⟩
      replace H : (some (Go.bits .or .u32 (ji5) (ji8))) = some r := by first | (rw [hji8] at H; exact H) | (simp only [hji8] at H ⊢; exact H)
      have hji8_ : (a0 / 2 ^ min (ji6).toNat 32) = ji8 := hji8
      have hji8z : (ji6) ≤ 32 → (a0 / 2 ^ (ji6).toNat) = ji8 := shr_small hji8
      obtain rfl := Option.some.inj H
      go_enter Tryz.func35, Tryz.ntmps35
      go_wp2
      go_ret
      exact ⟨by first | rfl | (simp; done) | (simp only [← hji3, ← hji5, ← hji6, ← hji8] <;> (first | rfl | simp)) | (simp [*]; done), by repeat (first | exact Drawn0.refl _ | apply Drawn0.step)⟩
    · rw [if_neg c7] at H
      exact absurd H (by simp)
  · rw [if_neg c4] at H
    exact absurd H (by simp)
def bloom_probe_p.f (a0 : Int) (a1 : Int) (a2 : Int) : Option (Int) := (bits_RotateLeft32.f a0 (-17)).bind fun t101 => (if a2 = 0 then (none) else (some (((a0 + (((a1) % 4294967296) * t101)) % 4294967296) % a2)))
set_option maxHeartbeats 8000000 in
set_option maxRecDepth 100000 in
theorem bloom_probe_p.calls (a0 : Int) (a1 : Int) (a2 : Int) (r : Int) (w : World) (h : bloom_probe_p.f a0 a1 a2 = some r) :
    Calls Tryz.prog 13 #[.int .u32 a0, .int .i64 a1, .int .i64 a2] w fun e w' => e = .returned (.int .i64 r) ∧ Drawn0 w w' := by
  have H : ((bits_RotateLeft32.f a0 (-17)).bind fun t101 => (if a2 = 0 then (none) else (some (((a0 + (((a1) % 4294967296) * t101)) % 4294967296) % a2)))) = some r := h
  clear h
  replace H := Option.bind_eq_some_iff.mp H
  obtain ⟨t101, A40, H⟩ := H
  replace H : (if a2 = 0 then (none) else (some (((a0 + (((a1) % 4294967296) * t101)) % 4294967296) % a2))) = some r := H
  have A4 := Aside0.mk A40
  clear A40
  by_cases c5 : a2 = 0
  · rw [if_pos c5] at H
    exact absurd H (by simp)
  · rw [if_neg c5] at H
    have c5b0 : (a2 == 0) = false := beq_eq_false_iff_ne.mpr c5
    have c5b1 : (a2 != 0) = true := bne_iff_ne.mpr c5
    obtain rfl := Option.some.inj H
    go_enter Tryz.func13, Tryz.ntmps13
    go_wp2_with (first | ((with_reducible refine gate_callee (f := 35) rfl ?_); refine goesL_ (some 9) rfl rfl Tryz.func35 (by kernel_rfl) rfl #[.int .u32 a0, .int .i64 (-17)] rfl (by (try simp only [List.map_toArray, List.map_cons, List.map_nil]); first | done | rfl | (simp only [List.length_drop, List.length_take]; rfl)) ?_; (with_reducible refine (bits_RotateLeft32.calls a0 (-17) t101 _ A4.out).mono ?_); rintro e w' ⟨rfl, ⟨nd, rfl⟩⟩; refine ⟨_, rfl, ?_⟩))
    go_ret
    exact ⟨by first | rfl | (simp; done) | (simp [*]; done), by repeat (first | exact Drawn0.refl _ | apply Drawn0.step)⟩
open Go.Proofs.YtlcohooognjmaaaGreatDoor.Bl
theorem rot17 (h : Nat) (hh : h < 4294967296) : bits_RotateLeft32.f (h : Int) (-17) = some ((rotN h : Nat) : Int) := by
  unfold bits_RotateLeft32.f
  have e1 : Go.bits .and .u64 (IntKind.u64.wrap (-17)) 31 = 15 := by decide +kernel
  have e2 : IntKind.u64.wrap (32 - 15) = 17 := by decide +kernel
  rw [e1, if_pos (by omega), e2, if_pos (by omega)]
  have e3 : shl .u32 (h : Int) 15 = ((h % 131072 * 32768 : Nat) : Int) := by
    unfold shl
    rw [show min (15 : Int).toNat IntKind.u32.bits = 15 by decide, show ((2 : Int) ^ 15) = 32768 by decide]
    have hw : ∀ x : Int, IntKind.u32.wrap x = x % 4294967296 := fun x => by simp [IntKind.wrap, IntKind.bits, IntKind.signed]
    rw [hw]
    omega
  have e4 : shr .u32 (h : Int) 17 = ((h / 131072 : Nat) : Int) := by
    unfold shr
    rw [show min (17 : Int).toNat IntKind.u32.bits = 17 by decide, show ((2 : Int) ^ 17) = 131072 by decide]
    omega
  rw [e3, e4, u32_or_nat _ _ (by omega) (by omega)]
  have e5 : h % 131072 * 32768 ||| h / 131072 = rotN h := by
    unfold rotN
    rw [Nat.mul_comm, show (32768 : Nat) = 2 ^ 15 from rfl, ← Nat.two_pow_add_eq_or_of_lt (i := 15) (by omega) (h % 131072)]
    omega
  rw [e5]
def bloom_probe.f (a0 a1 a2 : Int) : Option Int := if 0 ≤ a0 ∧ a0 < 4294967296 ∧ 0 ≤ a1 ∧ 0 < a2 then some ((prb a0.toNat a1.toNat a2.toNat : Nat) : Int) else none
theorem bloom_probe.calls (a0 : Int) (a1 : Int) (a2 : Int) (r : Int) (w : World) (h : bloom_probe.f a0 a1 a2 = some r) :
    Calls Tryz.prog 13 #[.int .u32 a0, .int .i64 a1, .int .i64 a2] w fun e w' => e = .returned (.int .i64 r) ∧ Drawn0 w w' := by
  unfold bloom_probe.f at h
  split at h
  · rename_i hh
    obtain ⟨h1, h2, h3, h4⟩ := hh
    obtain ⟨H, rfl⟩ := Int.eq_ofNat_of_zero_le h1
    obtain ⟨i, rfl⟩ := Int.eq_ofNat_of_zero_le h3
    obtain ⟨m, rfl⟩ := Int.eq_ofNat_of_zero_le (Int.le_of_lt h4)
    refine bloom_probe_p.calls _ _ _ r w ?_
    unfold bloom_probe_p.f
    rw [rot17 H (by omega)]
    simp only [Option.bind_some]
    rw [if_neg (by omega), ← h]
    simp only [Int.toNat_natCast]
    unfold prb
    congr 1
    have e : (H + i % 4294967296 * rotN H) % 4294967296 = (H + i * rotN H) % 4294967296 := by
      rw [Nat.add_mod, Nat.mul_mod, Nat.mod_mod, ← Nat.mul_mod, ← Nat.add_mod]
    rw [← e, Int.natCast_emod, Int.natCast_emod, Int.natCast_add, Int.natCast_mul, Int.natCast_emod]
    rfl
  · cases h
open Go.Proofs.YtlcohooognjmaaaGreatDoor.Bl Go.Proofs.YtlcohooognjmaaaGreatDoor.G
def sizesB (l : List ByteArray) : Bool := l.all fun s => decide (s.size ≤ 9223372036854775807)
theorem sizesB_iff {l : List ByteArray} : sizesB l = true ↔ ∀ s ∈ l, s.size ≤ 9223372036854775807 := by simp [sizesB, List.all_eq_true]
def bloom_Make.f (l0 : List ByteArray) (a1 : Int) : Option (List Int) := if sizesB l0 = true ∧ l0.length ≤ 8796093022208 ∧ -9223372036854775808 ≤ a1 ∧ a1 ≤ 9223372036854775807 then some (makeL l0 a1) else none
set_option maxHeartbeats 4000000 in
set_option maxRecDepth 100000 in
theorem bloom_Make.calls (A0 : Option Addr) (c0 : Nat) (l0 : List ByteArray) (a1 : Int) (r : List Int) (w : World) (hr0 : Kd.C Kd.string w A0 l0.length l0) (hc0 : l0.length ≤ c0) (h : bloom_Make.f l0 a1 = some r) (hT_ : GT w) :
    Calls Tryz.prog 6 #[.slice A0 l0.length c0, .int .i64 a1] w fun e w' => ∃ v0_ : Value, e = .returned (v0_) ∧ Kd.R (Kd.int .u8) 5 w' w.heap.size (fun _ => True) v0_ r ∧ Below w.heap.size w w' := by
  unfold bloom_Make.f at h
  split at h
  · rename_i hh
    obtain ⟨hs, hl, ha1, ha2⟩ := hh
    have hs := sizesB_iff.1 hs
    have h := Option.some.inj h
    unfold makeL at h
    have HR0 := Aside0.mk hr0
    have HT := Aside0.mk hT_
    have HS := Aside0.mk hs
    clear hr0 hT_ hs
    by_cases h1 : a1 < 1
    · rw [if_pos (.inl h1)] at h
      subst h
      have d1 : decide (a1 < 1) = true := decide_eq_true h1
      go_enter Tryz.func6, Tryz.ntmps6
      go_wp2
      go_ret
      exact ⟨_, rfl, Kd.R_nil _ _ _ _ _, Below.refl _ _⟩
    · have d1 : decide (a1 < 1) = false := decide_eq_false h1
      by_cases h0 : l0.length = 0
      · have hn : l0 = [] := List.eq_nil_of_length_eq_zero h0
        rw [if_pos (.inr hn)] at h
        subst h
        have d2 : ((l0.length : Int) == 0) = true := by rw [beq_iff_eq]; omega
        have d3 : (l0.length == 0) = true := by rw [beq_iff_eq]; omega
        clear h0 hn
        go_enter Tryz.func6, Tryz.ntmps6
        go_wp2
        go_ret
        exact ⟨_, rfl, Kd.R_nil _ _ _ _ _, Below.refl _ _⟩
      · rw [if_neg (by rintro (h2 | h2); exact h1 h2; exact h0 (by rw [h2]; rfl))] at h
        have d2 : ((l0.length : Int) == 0) = false := by rw [beq_eq_false_iff_ne]; omega
        have d3 : (l0.length == 0) = false := by rw [beq_eq_false_iff_ne]; omega
        obtain ⟨b, rfl⟩ := Int.eq_ofNat_of_zero_le (show 0 ≤ a1 by omega)
        rw [Int.toNat_natCast] at h
        obtain ⟨sz, hsz⟩ : ∃ sz, sz = min b 16 := ⟨_, rfl⟩
        rw [← hsz] at h
        have hsz1 : 1 ≤ sz ∧ sz ≤ 16 := by omega
        have e1 : (if (16 : Int) < (b : Int) then (16 : Int) else (b : Int)) = (sz : Int) := by split <;> omega
        obtain ⟨M, hM⟩ : ∃ M, M = l0.length * sz := ⟨_, rfl⟩
        have hM1 : M ≤ 140737488355328 := by
          rw [hM]
          have := Nat.mul_le_mul hl hsz1.2
          omega
        have e2 : wrap64 ((l0.length : Int) * (sz : Int)) = (M : Int) := by
          rw [← Int.natCast_mul, ← hM]
          unfold wrap64
          omega
        obtain ⟨m, hm⟩ : ∃ m, m = places l0.length sz := ⟨_, rfl⟩
        have hmg := places_ge l0.length sz
        rw [← hm] at hmg
        obtain ⟨X, hX⟩ : ∃ X, X = max ((M + 7) / 8 * 8) 64 := ⟨_, rfl⟩
        have e3 : (if ((M : Int) + 7) / 8 * 8 < 64 then (64 : Int) else ((M : Int) + 7) / 8 * 8) = (X : Int) := by split <;> omega
        have e4 : (if (1048576 : Int) < (X : Int) then (1048576 : Int) else (X : Int)) = (m : Int) := by
          have : m = min X 1048576 := by rw [hm, hX, hM]; rfl
          split <;> omega
        obtain ⟨q, hq⟩ : ∃ q, q = m / 8 := ⟨_, rfl⟩
        have e5 : ((m : Int) / 8) = (q : Int) := by omega
        obtain ⟨k, hk⟩ : ∃ k, k = probesN sz := ⟨_, rfl⟩
        have hkg := probes_ge sz hsz1.2
        rw [← hk] at hkg
        have e6 : (if (sz : Int) * 69 / 100 < 1 then (1 : Int) else (sz : Int) * 69 / 100) = (k : Int) := by
          unfold probesN at hk
          split <;> omega
        have hqm : 8 * q = m := by omega
        have HQM := Aside0.mk hqm
        have HH : Aside0 (l0.foldl (keyB k m) (List.replicate q 0) ++ [((k : Nat) : Int)] = r) := ⟨by rw [← h, hk, hq, hm]; rfl⟩
        have hq8 : 8 ≤ q ∧ q ≤ 131072 := by omega
        obtain ⟨hq8, hq9⟩ := hq8
        obtain ⟨hm1, hm2, -⟩ := hmg
        obtain ⟨hk1, hk2⟩ := hkg
        obtain ⟨hsz2, hsz3⟩ := hsz1
        clear h hsz hM hm hX hq hk hqm
        go_enter Tryz.func6, Tryz.ntmps6
        go_wp2_with (first | (at_make; go_must (refine R_make_cap (enc := Value.int .u8) (h1 := fun _ => rfl) (w0 := w) w.heap.size 5 rfl (N := 40) rfl 25 _ _ rfl (q : Int) ((q : Int) + 1) rfl rfl Tryz.underlying25 (0 : Int) 1 info5 rfl (by omega) (ok := fun _ => True) trivial (by omega) (by omega) (by omega) (Below.refl _ _) (Nat.le_refl _) ?_); intro v1 w1 ho hb hg hn; (have HO := Aside0.mk ho); (have HB := Aside0.mk hb); clear ho hb hg hn))
        have hzz := HO.out
        rw [Int.toNat_natCast] at hzz
        have HO1 := Aside0.mk hzz
        obtain ⟨A7, c7, e7⟩ := Kd.R_slice hzz
        rw [List.length_replicate] at e7
        subst e7
        obtain ⟨g, rfl, hg⟩ := own_block HO1.out (by omega)
        clear HO hzz
        go_loopw [43] (fun iv wr => ∃ (i : Nat) (L : List Int), i ≤ l0.length ∧ iv = .int .i64 (i : Int) ∧ Aside0 (L = (l0.take i).foldl (keyB k m) (List.replicate q 0)) ∧ Aside0 (Bytes L) ∧ Aside0 (Kd.R (Kd.int .u8) 5 wr w.heap.size (fun _ => True) (.slice (some ⟨g, 0, none⟩) q c7) L) ∧ Aside0 (Below w.heap.size w wr)) (fun iv _ => l0.length - (intOf iv).toNat)
        case atStart => exact ⟨0, _, by omega, rfl, ⟨rfl⟩, ⟨zeros_bytes q⟩, HO1, HB⟩
        case round =>
          clear HO1 HB
          obtain ⟨i, L, hi, rfl, HL, HLB, HO, HB⟩ := hrel
          by_cases hlt : i < l0.length
          · obtain ⟨ad, e1', hcell⟩ := Kd.at_string (Kd.C_below HR0.out HB.out) (i : Int) (by omega) (by omega)
            cases e1'
            rw [Int.toNat_natCast] at hcell
            obtain ⟨s, hs'⟩ : ∃ s, s = l0[i] := ⟨_, rfl⟩
            have hrd : rdOf ByteArray.empty l0 (i : Int) = s := by rw [hs']; simp [rdOf, List.getD_eq_getElem?_getD, hlt]
            rw [hrd] at hcell
            obtain ⟨A, c, w2, hrun, hc1, hC, hb1⟩ := conv_bytes (P := Tryz.prog) wr 9 25 5 s Tryz.underlying9 Tryz.underlying25 Tryz.underlying5 (HS.out s (by rw [hs']; exact List.getElem_mem hlt))
            have HC := Aside0.mk hC
            have HX : Aside0 (codec_Sum.f (bytesOf s) = some ((hashS s : Nat) : Int)) := ⟨by unfold codec_Sum.f; rw [if_pos (okB_iff.2 (bytes_str s)), hashS_eq]⟩
            have hlt32 := hash_lt s
            obtain ⟨H, hH⟩ : ∃ H, H = hashS s := ⟨_, rfl⟩
            rw [← hH] at HX hlt32
            have HO2 := Aside0.mk (Kd.R_below HO.out hb1)
            have HB2 := Aside0.mk (below_then HB.out HB.out.size hb1)
            have HT2 := Aside0.mk (GT.below HT.out HB2.out)
            have HKS := Aside0.mk (keys_succ k m l0 i hlt (List.replicate q 0))
            have HSE := Aside0.mk hs'
            have HHE := Aside0.mk hH
            clear hC hb1 hH hs' hrd HO HB
            go_wp2_with fail
            refine (codec_Sum.calls A c (bytesOf s) _ w2 HC.out hc1 HX.out HT2.out).mono ?_
            rintro e w3 ⟨rfl, rfl⟩
            go_wp2_with fail
            go_loopw [51] (fun jv wr => ∃ (j : Nat) (L2 : List Int), j ≤ k ∧ jv = .int .i64 (j : Int) ∧ Aside0 (L2 = (spotsL H j m).foldl setB L) ∧ Aside0 (Bytes L2) ∧ Aside0 (Kd.R (Kd.int .u8) 5 wr w.heap.size (fun _ => True) (.slice (some ⟨g, 0, none⟩) q c7) L2) ∧ Aside0 (Below w.heap.size w wr)) (fun jv _ => k - (intOf jv).toNat)
            case atStart => exact ⟨0, L, by omega, rfl, ⟨rfl⟩, HLB, HO2, HB2⟩
            case round =>
              clear HO2 HB2 hrun HC HT2 hcell
              obtain ⟨j, L2, hj, rfl, HL2, HLB2, HO, HB⟩ := hrel
              by_cases hlt2 : j < k
              · have HP : Aside0 (bloom_probe.f (H : Int) (j : Int) (m : Int) = some ((prb H j m : Nat) : Int)) := ⟨by unfold bloom_probe.f; rw [if_pos ⟨by omega, by omega, by omega, by omega⟩]; rfl⟩
                have hp := prb_lt H j m (by omega)
                obtain ⟨P, hP⟩ : ∃ P, P = prb H j m := ⟨_, rfl⟩
                rw [← hP] at HP hp
                have HPP := Aside0.mk hP
                have hpq : P / 8 < q := by have := HQM.out; omega
                clear hP
                go_wp2_with fail
                refine (bloom_probe.calls (H : Int) (j : Int) (m : Int) ((P : Nat) : Int) _ HP.out).mono ?_
                rintro e w4 ⟨rfl, hD⟩
                have HOd := Aside0.mk (Kd.R_below HO.out hD.below)
                have HBd := Aside0.mk (below_then HB.out HB.out.size hD.below)
                obtain ⟨hcell, hfz⟩ := Kd.R_celln (0 : Int) HOd.out ((P / 8 : Nat) : Int) (by omega) (by omega)
                rw [Int.toNat_natCast] at hcell hfz
                clear hD HO HB
                go_wp2_with fail
                go_region
                all_goals go_wp2_with fail
                all_goals exact ⟨⟨j + 1, setB L2 P, by omega, by go_num, ⟨by rw [spots_succ, List.foldl_append, ← HL2.out, ← HPP.out]; rfl⟩, ⟨setB_bytes HLB2.out P⟩, ⟨by rw [← set_eq]; exact Kd.R_putn HOd.out ((P / 8 : Nat) : Int) _⟩, ⟨below_drew (below_set HBd.out hg)⟩⟩, by simp [intOf]; omega⟩
              · obtain rfl : j = k := by omega
                go_wp2_with fail
                exact ⟨⟨i + 1, L2, by omega, by go_num, ⟨by rw [HKS.out, HL2.out, HL.out, ← HSE.out, HHE.out]; rfl⟩, HLB2, HO, HB⟩, by simp [intOf]; omega⟩
          · obtain rfl : i = l0.length := by omega
            have HR : Aside0 (L ++ [((k : Nat) : Int)] = r) := ⟨by rw [← HH.out, HL.out, List.take_length]⟩
            have hkb : (k : Int) % 256 = (k : Int) := by omega
            go_wp2_with (first
              | ((with_reducible refine gate_builtin (b := .append) (xs := #[.tmp 70, .tmp 73]) rfl ?_); at_builtin; go_must (refine Kd.R_append (Kd.int .u8) (w0 := w) w.heap.size rfl (.tmp 70) (.tmp 73) 25 5 (.int .u8 0) 1 rfl Tryz.underlying25 info5 rfl (by decide) (by omega) _ L (k : Int) [.int .u8 (k : Int)] (fun _ => True) (fun _ => False) rfl rfl rfl (fun _ hk => hk.elim) (fun _ _ => trivial) ?aO ?aB ?aS ?aL ?_); (case aO => exact HO.out); (case aB => exact HB.out); (case aS => exact HB.out.size); (case aL => have := (Kd.R_reads' HO.out).1; omega); intro v2 w2 ho hb hg_ hn_; (have HO2 := Aside0.mk ho); (have HB2 := Aside0.mk hb); clear ho hb hg_ hn_))
            go_ret
            exact ⟨_, rfl, by rw [← HR.out]; exact HO2.out, HB2.out⟩
  · cases h
def screelaw8_same_p.l0 : Nat → List Int → List Int → Int → Option (Bool)
  | 0, _, _, _ => none
  | k + 1, x0, x1, x5 => if x5 < (x0.length : Int) then (if 0 ≤ x5 then (if x5 < (x1.length : Int) then (if (rd x0 x5) = (rd x1 x5) then (screelaw8_same_p.l0 k x0 x1 (wrap64 (x5 + 1))) else (some false)) else (none)) else (none)) else (some true)
def screelaw8_same_p.f (k : Nat) (l0 : List Int) (l1 : List Int) : Option (Bool) := if (l0.length : Int) = (l1.length : Int) then (screelaw8_same_p.l0 k l0 l1 0) else (some false)
theorem screelaw8_same_p.mono_l : ∀ k, (∀ y0 y1 y2, LeO (screelaw8_same_p.l0 k y0 y1 y2) (screelaw8_same_p.l0 (k + 1) y0 y1 y2))
  | 0 => fun _ _ _ r h => by simp [screelaw8_same_p.l0] at h
  | k + 1 => by
    have ih0 := screelaw8_same_p.mono_l k
    · intro y0 y1 y2
      unfold screelaw8_same_p.l0
      repeat' first
      | (with_reducible exact ih0 _ _ _)
      | (with_reducible exact LeO.refl _)
      | (with_reducible exact LeO.none _)
      | (with_reducible refine LeO.ite ?_ ?_)
      | (with_reducible refine LeO.bind ?_ (fun _ => ?_))
      | exact ih0 _ _ _
      | exact LeO.none _
      | refine LeO.ite ?_ ?_
      | refine LeO.bind ?_ (fun _ => ?_)
theorem screelaw8_same_p.mono : ∀ a0 a1 k, LeO (screelaw8_same_p.f k a0 a1) (screelaw8_same_p.f (k + 1) a0 a1) := by
  intro a0 a1 k
  have ih0 := screelaw8_same_p.mono_l k
  unfold screelaw8_same_p.f
  repeat' first
      | (with_reducible exact ih0 _ _ _)
      | (with_reducible exact LeO.refl _)
      | (with_reducible exact LeO.none _)
      | (with_reducible refine LeO.ite ?_ ?_)
      | (with_reducible refine LeO.bind ?_ (fun _ => ?_))
      | exact ih0 _ _ _
      | exact LeO.none _
      | refine LeO.ite ?_ ?_
      | refine LeO.bind ?_ (fun _ => ?_)
set_option maxHeartbeats 8000000 in
set_option maxRecDepth 100000 in
theorem screelaw8_same_p.calls (k : Nat) (A0 : Option Addr) (c0 : Nat) (l0 : List Int) (A1 : Option Addr) (c1 : Nat) (l1 : List Int) (r : Bool) (w : World) (hr0 : Kd.C (Kd.int .u8) w A0 l0.length l0) (hc0 : l0.length ≤ c0) (hr1 : Kd.C (Kd.int .u8) w A1 l1.length l1) (hc1 : l1.length ≤ c1) (h : screelaw8_same_p.f k l0 l1 = some r) :
    Calls Tryz.prog 7 #[.slice A0 l0.length c0, .slice A1 l1.length c1] w fun e w' => e = .returned (.bool r) ∧ Drawn0 w w' := by
  have HR0 := Aside0.mk hr0
  have HC0 := Aside0.mk hc0
  clear hr0 hc0
  have HR1 := Aside0.mk hr1
  have HC1 := Aside0.mk hc1
  clear hr1 hc1
  have H : (if (l0.length : Int) = (l1.length : Int) then (screelaw8_same_p.l0 k l0 l1 0) else (some false)) = some r := h
  clear h
  by_cases c3 : (l0.length : Int) = (l1.length : Int)
  · rw [if_pos c3] at H
    have c3b0 : ((l0.length : Int) == (l1.length : Int)) = true := beq_iff_eq.mpr c3
    have c3b1 : ((l0.length : Int) != (l1.length : Int)) = false := bne_eq_false_iff_eq.mpr c3
    have c3b2 : (l0.length == l1.length) = true := by first | simpa using c3 | (simp at c3 ⊢; omega)
    clear c3
    have H' := Aside0.mk H
    clear H
    go_enter Tryz.func7, Tryz.ntmps7
    go_wp2
    repeat (go_quiet (fail); try go_wp2)
    go_loopg [5] k (fun kq v5 w' => ∃ (x5_1 : Int), v5 = .int .i64 x5_1 ∧ Aside0 (screelaw8_same_p.l0 kq l0 l1 x5_1 = some r) ∧ Aside0 (kq ≤ k) ∧ Drawn0 w w')
    case atStart => exact ⟨(0), (by first | rfl | (simp; done) | (simp [*]; done)), H', ⟨Nat.le_refl _⟩, by repeat (first | exact Drawn0.refl _ | apply Drawn0.step)⟩
    case round =>
      clear H'
      try clear c1
      try clear p2
      try clear c3
      try clear c3b0
      try clear c3b1
      try clear c3b2
      obtain ⟨x5_1, rfl, HA, HK1, ⟨m1, rfl⟩⟩ := hrel
      cases gk with
      | zero => exact absurd HA.out (by simp [screelaw8_same_p.l0])
      | succ k1 =>
        have H := HA.out
        clear HA
        simp only [screelaw8_same_p.l0] at H
        by_cases c4 : x5_1 < (l0.length : Int)
        · rw [if_pos c4] at H
          have c4b0 : decide (x5_1 < (l0.length : Int)) = true := decide_eq_true c4
          clear c4
          by_cases c5 : 0 ≤ x5_1
          · rw [if_pos c5] at H
            have c5b0 : decide (0 ≤ x5_1) = true := decide_eq_true c5
            clear c5
            by_cases c6 : x5_1 < (l1.length : Int)
            · rw [if_pos c6] at H
              have c6b0 : decide (x5_1 < (l1.length : Int)) = true := decide_eq_true c6
              clear c6
              by_cases c7 : (rd l0 x5_1) = (rd l1 x5_1)
              · rw [if_pos c7] at H
                have c7b0 : ((rd l0 x5_1) == (rd l1 x5_1)) = true := beq_iff_eq.mpr c7
                have c7b1 : ((rd l0 x5_1) != (rd l1 x5_1)) = false := bne_eq_false_iff_eq.mpr c7
                clear c7
                have H' := Aside0.mk H
                clear H
                have p102 : 0 ≤ (x5_1 : Int) := of_decide_eq_true (by first | (with_reducible assumption) | assumption)
                have q102 : x5_1 < (l0.length : Int) := of_decide_eq_true (by first | (with_reducible assumption) | assumption)
                obtain ⟨ad102, e102, hx102_0⟩ := Kd.at_int HR0.out x5_1 p102 q102
                cases e102
                replace p102 := eq_true p102
                replace q102 := eq_true q102
                have p103 : 0 ≤ (x5_1 : Int) := of_decide_eq_true (by first | (with_reducible assumption) | assumption)
                have q103 : x5_1 < (l1.length : Int) := of_decide_eq_true (by first | (with_reducible assumption) | assumption)
                obtain ⟨ad103, e103, hx103_0⟩ := Kd.at_int HR1.out x5_1 p103 q103
                cases e103
                replace p103 := eq_true p103
                replace q103 := eq_true q103
                go_wp2
                repeat (go_quiet (fail); try go_wp2)
                go_roundg k1
                case measure => have := HK1.out; omega
                case rel => exact ⟨(wrap64 (x5_1 + 1)), (by first | rfl | (simp; done) | (simp [*]; done)), H', ⟨by have := HK1.out; omega⟩, by repeat (first | exact Drawn0.refl _ | apply Drawn0.step)⟩
              · rw [if_neg c7] at H
                have c7b0 : ((rd l0 x5_1) == (rd l1 x5_1)) = false := beq_eq_false_iff_ne.mpr c7
                have c7b1 : ((rd l0 x5_1) != (rd l1 x5_1)) = true := bne_iff_ne.mpr c7
                obtain rfl := Option.some.inj H
                have p102 : 0 ≤ (x5_1 : Int) := of_decide_eq_true (by first | (with_reducible assumption) | assumption)
                have q102 : x5_1 < (l0.length : Int) := of_decide_eq_true (by first | (with_reducible assumption) | assumption)
                obtain ⟨ad102, e102, hx102_0⟩ := Kd.at_int HR0.out x5_1 p102 q102
                cases e102
                replace p102 := eq_true p102
                replace q102 := eq_true q102
                have p103 : 0 ≤ (x5_1 : Int) := of_decide_eq_true (by first | (with_reducible assumption) | assumption)
                have q103 : x5_1 < (l1.length : Int) := of_decide_eq_true (by first | (with_reducible assumption) | assumption)
                obtain ⟨ad103, e103, hx103_0⟩ := Kd.at_int HR1.out x5_1 p103 q103
                cases e103
                replace p103 := eq_true p103
                replace q103 := eq_true q103
                go_wp2
                repeat (go_quiet (fail); try go_wp2)
                go_ret
                exact ⟨by first | rfl | (simp; done) | (simp [*]; done), by repeat (first | exact Drawn0.refl _ | apply Drawn0.step)⟩
            · rw [if_neg c6] at H
              exact absurd H (by simp)
          · rw [if_neg c5] at H
            exact absurd H (by simp)
        · rw [if_neg c4] at H
          have c4b0 : decide (x5_1 < (l0.length : Int)) = false := decide_eq_false c4
          clear c4
          obtain rfl := Option.some.inj H
          go_wp2
          repeat (go_quiet (fail); try go_wp2)
          go_ret
          exact ⟨by first | rfl | (simp; done) | (simp [*]; done), by repeat (first | exact Drawn0.refl _ | apply Drawn0.step)⟩
  · rw [if_neg c3] at H
    have c3b0 : ((l0.length : Int) == (l1.length : Int)) = false := beq_eq_false_iff_ne.mpr c3
    have c3b1 : ((l0.length : Int) != (l1.length : Int)) = true := bne_iff_ne.mpr c3
    have c3b2 : (l0.length == l1.length) = false := by first | simpa using c3 | (simp at c3 ⊢; omega)
    obtain rfl := Option.some.inj H
    go_enter Tryz.func7, Tryz.ntmps7
    go_wp2
    repeat (go_quiet (fail); try go_wp2)
    go_ret
    exact ⟨by first | rfl | (simp; done) | (simp [*]; done), by repeat (first | exact Drawn0.refl _ | apply Drawn0.step)⟩
theorem screelaw8_same_ev (l1 l2 : List Int) (hlen : l1.length = l2.length) (hm : l1.length ≤ 9223372036854775807) (d : Nat) : ∀ i : Nat, i + d = l1.length → Ev (fun k => screelaw8_same_p.l0 k l1 l2 (i : Int)) (decide (l1.drop i = l2.drop i)) := by
  induction d with
  | zero =>
    intro i hi
    refine Ev.step (f := fun _ => some true) (fun k => ?_) (by rw [List.drop_of_length_le (by omega), List.drop_of_length_le (by omega)]; exact Ev.now _)
    simp only [screelaw8_same_p.l0]
    rw [if_neg (by omega)]
  | succ d ih =>
    intro i hi
    have h1 : i < l1.length := by omega
    have h2 : i < l2.length := by omega
    have e1 : rd l1 (i : Int) = l1[i] := by simp [rd, List.getD_eq_getElem?_getD, h1]
    have e2 : rd l2 (i : Int) = l2[i] := by simp [rd, List.getD_eq_getElem?_getD, h2]
    rw [List.drop_eq_getElem_cons h1, List.drop_eq_getElem_cons h2]
    by_cases h : l1[i] = l2[i]
    · have hd : decide (l1[i] :: l1.drop (i + 1) = l2[i] :: l2.drop (i + 1)) = decide (l1.drop (i + 1) = l2.drop (i + 1)) := decide_eq_decide.2 ⟨fun e => (List.cons.inj e).2, fun e => by rw [h, e]⟩
      rw [hd]
      refine Ev.step (fun k => ?_) (ih (i + 1) (by omega))
      simp only [screelaw8_same_p.l0]
      rw [if_pos (by omega), if_pos (by omega), if_pos (by omega), e1, e2, if_pos h, show wrap64 ((i : Int) + 1) = ((i + 1 : Nat) : Int) by unfold wrap64; omega]
    · have hd : decide (l1[i] :: l1.drop (i + 1) = l2[i] :: l2.drop (i + 1)) = false := decide_eq_false (fun e => h (List.cons.inj e).1)
      rw [hd]
      refine Ev.step (f := fun _ => some false) (fun k => ?_) (Ev.now _)
      simp only [screelaw8_same_p.l0]
      rw [if_pos (by omega), if_pos (by omega), if_pos (by omega), e1, e2, if_neg h]
def screelaw8_same.f (l0 : List Int) (l1 : List Int) : Option (Bool) := if l0.length ≤ 9223372036854775807 then some (decide (l0 = l1)) else none
theorem screelaw8_same.calls (A0 : Option Addr) (c0 : Nat) (l0 : List Int) (A1 : Option Addr) (c1 : Nat) (l1 : List Int) (r : Bool) (w : World) (hr0 : Kd.C (Kd.int .u8) w A0 l0.length l0) (hc0 : l0.length ≤ c0) (hr1 : Kd.C (Kd.int .u8) w A1 l1.length l1) (hc1 : l1.length ≤ c1) (h : screelaw8_same.f l0 l1 = some r) :
    Calls Tryz.prog 7 #[.slice A0 l0.length c0, .slice A1 l1.length c1] w fun e w' => e = .returned (.bool r) ∧ Drawn0 w w' := by
  unfold screelaw8_same.f at h
  split at h
  · rename_i hh
    by_cases hlen : l0.length = l1.length
    · obtain ⟨k, hk⟩ := (screelaw8_same_ev l0 l1 hlen hh l0.length 0 (by omega)).rounds
      refine screelaw8_same_p.calls k A0 c0 l0 A1 c1 l1 r w hr0 hc0 hr1 hc1 ?_
      unfold screelaw8_same_p.f
      rw [if_pos (by omega)]
      rw [← h]
      exact hk
    · refine screelaw8_same_p.calls 0 A0 c0 l0 A1 c1 l1 r w hr0 hc0 hr1 hc1 ?_
      unfold screelaw8_same_p.f
      rw [if_neg (by omega), ← h]
      have : ¬ l0 = l1 := fun e => hlen (by rw [e])
      simp [this]
  · cases h
open Go.Proofs.YtlcohooognjmaaaGreatDoor.Bl Go.Proofs.YtlcohooognjmaaaGreatDoor.G
def bloom_May.f (l0 : List Int) (a1 : ByteArray) : Option Bool := if okB l0 = true ∧ l0.length ≤ 140737488351232 ∧ a1.size ≤ 9223372036854775807 then some (mayL l0 a1) else none
set_option maxHeartbeats 2000000 in
set_option maxRecDepth 100000 in
theorem bloom_May.calls (A0 : Option Addr) (c0 : Nat) (l0 : List Int) (a1 : ByteArray) (r : Bool) (w : World) (hr0 : Kd.C (Kd.int .u8) w A0 l0.length l0) (hc0 : l0.length ≤ c0) (h : bloom_May.f l0 a1 = some r) (hT_ : GT w) :
    Calls Tryz.prog 11 #[.slice A0 l0.length c0, .string a1] w fun e w' => e = .returned (.bool r) ∧ Below w.heap.size w w' := by
  unfold bloom_May.f at h
  split at h
  · rename_i hh
    obtain ⟨hb, hl, hs⟩ := hh
    have hb := okB_iff.1 hb
    have h := Option.some.inj h
    unfold mayL at h
    have HR0 := Aside0.mk hr0
    have HT := Aside0.mk hT_
    have HB := Aside0.mk hb
    clear hr0 hT_ hb
    by_cases h9 : l0.length < 9
    · rw [if_pos h9] at h
      subst h
      have d1 : decide ((l0.length : Int) - 1 < 8) = true := decide_eq_true (by omega)
      go_enter Tryz.func11, Tryz.ntmps11
      go_wp2
      go_ret
      exact ⟨rfl, Below.refl _ _⟩
    · rw [if_neg h9] at h
      obtain ⟨n, hn⟩ : ∃ n, n = l0.length - 1 := ⟨_, rfl⟩
      rw [← hn] at h
      have hni : (l0.length : Int) - 1 = (n : Int) := by omega
      obtain ⟨ad, e1, hcell⟩ := Kd.at_int HR0.out (n : Int) (by omega) (by omega)
      cases e1
      rw [Int.toNat_natCast] at hcell
      obtain ⟨k, hk⟩ := Int.eq_ofNat_of_zero_le (bytes_rd HB.out n (by omega)).1
      have hk2 := (bytes_rd HB.out n (by omega)).2
      rw [hk] at hcell h hk2
      rw [Int.toNat_natCast] at h
      have HN := Aside0.mk hn
      have h8 : 8 ≤ n := by omega
      have d1 : decide ((n : Int) < 8) = false := decide_eq_false (by omega)
      clear hk hn
      by_cases hk0 : k = 0
      · rw [if_pos (.inl hk0)] at h
        subst h hk0
        go_enter Tryz.func11, Tryz.ntmps11
        go_wp2
        go_ret
        exact ⟨rfl, Below.refl _ _⟩
      · have k0 : ((k : Int) == 0) = false := by rw [beq_eq_false_iff_ne]; omega
        by_cases hk11 : 11 < k
        · rw [if_pos (.inr hk11)] at h
          subst h
          have d2 : decide ((11 : Int) < (k : Int)) = true := decide_eq_true (by omega)
          go_enter Tryz.func11, Tryz.ntmps11
          go_wp2
          go_ret
          exact ⟨rfl, Below.refl _ _⟩
        · rw [if_neg (by omega)] at h
          have d2 : decide ((11 : Int) < (k : Int)) = false := decide_eq_false (by omega)
          obtain ⟨A, c, w1, hrun, hc1, hC, hb1⟩ := conv_bytes (P := Tryz.prog) w 9 25 5 a1 Tryz.underlying9 Tryz.underlying25 Tryz.underlying5 hs
          have HC := Aside0.mk hC
          have HB1 := Aside0.mk hb1
          have HX : Aside0 (codec_Sum.f (bytesOf a1) = some ((hashS a1 : Nat) : Int)) := ⟨by unfold codec_Sum.f; rw [if_pos (okB_iff.2 (bytes_str a1)), hashS_eq]⟩
          have hlt := hash_lt a1
          obtain ⟨H, hH⟩ : ∃ H, H = hashS a1 := ⟨_, rfl⟩
          rw [← hH] at HX h hlt
          have HR1 := Aside0.mk (Kd.C_below HR0.out hb1)
          have HT1 := Aside0.mk (GT.below HT.out hb1)
          clear hC hb1 hH
          go_enter Tryz.func11, Tryz.ntmps11
          go_wp2_with fail
          refine (codec_Sum.calls A c (bytesOf a1) _ w1 HC.out hc1 HX.out HT1.out).mono ?_
          rintro e w2 ⟨rfl, rfl⟩
          go_wp2_with fail
          go_loopw [30] (fun i wr => ∃ j : Nat, j ≤ k ∧ i = .int .i64 (j : Int) ∧ Aside0 (Below w.heap.size w wr) ∧ Aside0 (∀ q, q < j → hasB l0 (prb H q (8 * n)) = true)) (fun i _ => k - (intOf i).toNat)
          case atStart => exact ⟨0, by omega, rfl, HB1, ⟨fun q hq => by omega⟩⟩
          case round =>
            obtain ⟨j, hj, rfl, HBJ, HALL⟩ := hrel
            by_cases hlt2 : j < k
            · have HP : Aside0 (bloom_probe.f (H : Int) (j : Int) (8 * (n : Int)) = some ((prb H j (8 * n) : Nat) : Int)) := ⟨by unfold bloom_probe.f; rw [if_pos ⟨by omega, by omega, by omega, by omega⟩]; congr 3⟩
              have hp := prb_lt H j (8 * n) (by omega)
              obtain ⟨P, hP⟩ : ∃ P, P = prb H j (8 * n) := ⟨_, rfl⟩
              rw [← hP] at HP hp
              have HPP := Aside0.mk hP
              clear hP
              have HRJ := Aside0.mk (Kd.C_below HR0.out HBJ.out)
              go_wp2_with fail
              refine (bloom_probe.calls (H : Int) (j : Int) (8 * (n : Int)) ((P : Nat) : Int) _ HP.out).mono ?_
              rintro e w3 ⟨rfl, ⟨m3, rfl⟩⟩
              obtain ⟨ad, e1, hcell⟩ := Kd.at_int (Kd.C_drewN HRJ.out m3) (((P / 8 : Nat)) : Int) (by omega) (by omega)
              cases e1
              rw [Int.toNat_natCast] at hcell
              have HBT := Aside0.mk (bit_test HB.out P)
              have HBN : Aside0 (Below w.heap.size w (wr.drewN m3)) := ⟨pw_below_drewN HBJ.out m3⟩
              cases hq : hasB l0 P
              · have ht : (bits .and .u8 (rd l0 ((P : Int) / 8) / 2 ^ (P % 8)) 1 == 0) = true := by rw [HBT.out, hq]; rfl
                have hr : r = false := by
                  rw [← h, List.all_eq_false]
                  exact ⟨P, by rw [HPP.out]; exact List.mem_map.2 ⟨j, List.mem_range.2 hlt2, rfl⟩, by rw [hq]; simp⟩
                subst hr
                clear hq
                go_wp2_with fail
                go_ret
                exact ⟨rfl, HBN.out⟩
              · have ht : (bits .and .u8 (rd l0 ((P : Int) / 8) / 2 ^ (P % 8)) 1 == 0) = false := by rw [HBT.out, hq]; rfl
                have HQ := Aside0.mk hq
                clear hq
                go_wp2_with fail
                exact ⟨⟨j + 1, by omega, by go_num, HBN, ⟨fun q hq => by
                  by_cases e : q = j
                  · rw [e, ← HPP.out]; exact HQ.out
                  · exact HALL.out q (by omega)⟩⟩, by simp [intOf]; omega⟩
            · have hr : r = true := by
                rw [← h, List.all_eq_true]
                intro p hp
                obtain ⟨q, hq, rfl⟩ := List.mem_map.1 hp
                exact HALL.out q (by have := List.mem_range.1 hq; omega)
              subst hr
              go_wp2_with fail
              go_ret
              exact ⟨rfl, HBJ.out⟩
  · cases h
def screelaw8_known.f  : Option (Bool) := (bloom_Make.f (([(⟨#[97]⟩ : ByteArray)] : List ByteArray)) 10).bind fun t107 => ((screelaw8_same.f t107 (([1, 0, 1, 1, 0, 1, 1, 1, 6] : List Int))).bind fun t113 => (if t113 = true then ((bloom_May.f (([0, 0, 0, 0, 0, 0, 0, 0, 1] : List Int)) (⟨#[97]⟩ : ByteArray)).bind fun t117 => (if t117 = true then (some false) else ((bloom_May.f ([] : List Int) (⟨#[97]⟩ : ByteArray)).bind fun t118 => (some t118)))) else (some false)))
set_option maxHeartbeats 8000000 in
set_option maxRecDepth 100000 in
theorem screelaw8_known.calls  (r : Bool) (w : World) (h : screelaw8_known.f  = some r) (hT_ : GT w) :
    Calls Tryz.prog 4 #[] w fun e w' => e = .returned (.bool r) ∧ Below w.heap.size w w' := by
  have HT_ := Aside0.mk hT_
  clear hT_
  have HB := Aside0.mk (Below.refl w.heap.size w)
  have H : ((bloom_Make.f (([(⟨#[97]⟩ : ByteArray)] : List ByteArray)) 10).bind fun t107 => ((screelaw8_same.f t107 (([1, 0, 1, 1, 0, 1, 1, 1, 6] : List Int))).bind fun t113 => (if t113 = true then ((bloom_May.f (([0, 0, 0, 0, 0, 0, 0, 0, 1] : List Int)) (⟨#[97]⟩ : ByteArray)).bind fun t117 => (if t117 = true then (some false) else ((bloom_May.f ([] : List Int) (⟨#[97]⟩ : ByteArray)).bind fun t118 => (some t118)))) else (some false)))) = some r := h
  clear h
  obtain ⟨y104, hy104⟩ : ∃ y_ : List ByteArray, y_ = (([(⟨#[97]⟩ : ByteArray)] : List ByteArray)) := ⟨_, rfl⟩
  replace H : ((bloom_Make.f y104 10).bind fun t107 => ((screelaw8_same.f t107 (([1, 0, 1, 1, 0, 1, 1, 1, 6] : List Int))).bind fun t113 => (if t113 = true then ((bloom_May.f (([0, 0, 0, 0, 0, 0, 0, 0, 1] : List Int)) (⟨#[97]⟩ : ByteArray)).bind fun t117 => (if t117 = true then (some false) else ((bloom_May.f ([] : List Int) (⟨#[97]⟩ : ByteArray)).bind fun t118 => (some t118)))) else (some false)))) = some r := by first | (rw [hy104]; with_reducible exact H) | (have H2_ := (Option.bind_some _ _).symm.trans H; rw [hy104]; with_reducible exact H2_) | (have H2_ := (Option.bind_some _ _).symm.trans H; with_reducible exact H2_) | with_reducible exact H | (rw [hy104]; exact H) | exact H
  have Ny104 := Aside0.mk hy104
  clear hy104
  replace H := Option.bind_eq_some_iff.mp H
  obtain ⟨t107, A10, H⟩ := H
  replace H : ((screelaw8_same.f t107 (([1, 0, 1, 1, 0, 1, 1, 1, 6] : List Int))).bind fun t113 => (if t113 = true then ((bloom_May.f (([0, 0, 0, 0, 0, 0, 0, 0, 1] : List Int)) (⟨#[97]⟩ : ByteArray)).bind fun t117 => (if t117 = true then (some false) else ((bloom_May.f ([] : List Int) (⟨#[97]⟩ : ByteArray)).bind fun t118 => (some t118)))) else (some false))) = some r := H
  have A1 := Aside0.mk A10
  clear A10
  obtain ⟨y110, hy110⟩ : ∃ y_ : List Int, y_ = (([1, 0, 1, 1, 0, 1, 1, 1, 6] : List Int)) := ⟨_, rfl⟩
  replace H : ((screelaw8_same.f t107 y110).bind fun t113 => (if t113 = true then ((bloom_May.f (([0, 0, 0, 0, 0, 0, 0, 0, 1] : List Int)) (⟨#[97]⟩ : ByteArray)).bind fun t117 => (if t117 = true then (some false) else ((bloom_May.f ([] : List Int) (⟨#[97]⟩ : ByteArray)).bind fun t118 => (some t118)))) else (some false))) = some r := by first | (rw [hy110]; with_reducible exact H) | (have H2_ := (Option.bind_some _ _).symm.trans H; rw [hy110]; with_reducible exact H2_) | (have H2_ := (Option.bind_some _ _).symm.trans H; with_reducible exact H2_) | with_reducible exact H | (rw [hy110]; exact H) | exact H
  have Ny110 := Aside0.mk hy110
  clear hy110
  replace H := Option.bind_eq_some_iff.mp H
  obtain ⟨t113, A20, H⟩ := H
  replace H : (if t113 = true then ((bloom_May.f (([0, 0, 0, 0, 0, 0, 0, 0, 1] : List Int)) (⟨#[97]⟩ : ByteArray)).bind fun t117 => (if t117 = true then (some false) else ((bloom_May.f ([] : List Int) (⟨#[97]⟩ : ByteArray)).bind fun t118 => (some t118)))) else (some false)) = some r := H
  have A2 := Aside0.mk A20
  clear A20
  by_cases c3 : t113 = true
  · subst c3
    have H1 : ((bloom_May.f (([0, 0, 0, 0, 0, 0, 0, 0, 1] : List Int)) (⟨#[97]⟩ : ByteArray)).bind fun t117 => (if t117 = true then (some false) else ((bloom_May.f ([] : List Int) (⟨#[97]⟩ : ByteArray)).bind fun t118 => (some t118)))) = some r := by rw [if_pos rfl] at H; exact H
    clear H
    have H := H1
    clear H1
    obtain ⟨y114, hy114⟩ : ∃ y_ : List Int, y_ = (([0, 0, 0, 0, 0, 0, 0, 0, 1] : List Int)) := ⟨_, rfl⟩
    replace H : ((bloom_May.f y114 (⟨#[97]⟩ : ByteArray)).bind fun t117 => (if t117 = true then (some false) else ((bloom_May.f ([] : List Int) (⟨#[97]⟩ : ByteArray)).bind fun t118 => (some t118)))) = some r := by first | (rw [hy114]; with_reducible exact H) | (have H2_ := (Option.bind_some _ _).symm.trans H; rw [hy114]; with_reducible exact H2_) | (have H2_ := (Option.bind_some _ _).symm.trans H; with_reducible exact H2_) | with_reducible exact H | (rw [hy114]; exact H) | exact H
    have Ny114 := Aside0.mk hy114
    clear hy114
    replace H := Option.bind_eq_some_iff.mp H
    obtain ⟨t117, A40, H⟩ := H
    replace H : (if t117 = true then (some false) else ((bloom_May.f ([] : List Int) (⟨#[97]⟩ : ByteArray)).bind fun t118 => (some t118))) = some r := H
    have A4 := Aside0.mk A40
    clear A40
    by_cases c5 : t117 = true
    · subst c5
      have H1 : (some false) = some r := by rw [if_pos rfl] at H; exact H
      clear H
      have H := H1
      clear H1
      obtain rfl := Option.some.inj H
      go_enter Tryz.func4, Tryz.ntmps4
      go_wp2_with (first | ((with_reducible refine gate_dst (N := 2) rfl ?_); (try (refine gate_guard (by rfl) ?_; dsimp only)); refine Kd.R_lit Kd.string _ 9 ?hg (N := 2) ?hd (xs := ([(⟨#[97]⟩ : ByteArray)] : List ByteArray)) (inner := [.string (⟨#[97]⟩ : ByteArray)]) (ok := fun _ => True) (okp := fun _ => True) ?hr ?hp (fun _ hk => hk) trivial (Below.refl _ _) (Nat.le_refl _) (by simp) ?_; (case hd => rfl); (case hg => rfl); (case hr => first | (go_simp; done) | (go_simp; rfl)); (case hp => exact (Reps.one (show Kd.M Kd.string _ _ _ (⟨#[97]⟩ : ByteArray) [.string (⟨#[97]⟩ : ByteArray)] from rfl) (Reps.none _ _))); intro v105 w6 ho7 hb hg_ hnew_; clear hg_ hnew_; (first | rw [← Ny104.out] at ho7 | (simp only [Int.reduceToNat] at ho7; rw [← Ny104.out] at ho7)); have n0_ := Aside0.mk (Kd.R_lower ho7 (below_size (by repeat (first | (with_reducible first | exact HB.out | apply below_alloc | apply pw_below_drewN | apply below_drew1) | exact HB.out)))); have n1_ := Aside0.mk (below_step (by repeat (first | (with_reducible first | exact HB.out | apply below_alloc | apply pw_below_drewN | apply below_drew1) | exact HB.out)) hb); clear HB; have HO106 := n0_; have HB := n1_; clear n0_ n1_; clear hb ho7; obtain ⟨Ao8, co8, eo8⟩ := Kd.R_slice HO106.out; subst eo8) | ((with_reducible refine gate_callee (f := 6) rfl ?_); refine goesL_ (some 3) rfl rfl Tryz.func6 (by kernel_rfl) rfl #[.slice Ao8 y104.length co8, .int .i64 10] rfl (by (try simp only [List.map_toArray, List.map_cons, List.map_nil]); first | done | rfl | (simp only [List.length_drop, List.length_take]; rfl)) ?_; (with_reducible refine (bloom_Make.calls _ _ y104 10 t107 _ ?side1 ?side2 A1.out ?side3).mono ?_); (case side1 => repeat (first | exact (Kd.R_reads' HO106.out).2.2 | (with_reducible refine Kd.C_alloc ?_ _) | (with_reducible refine Kd.C_drewN ?_ _) | (with_reducible refine Kd.C_drew ?_))); (case side2 => exact (Kd.R_reads' HO106.out).2.1); (case side3 => first | (with_reducible exact HT_.out) | exact GT.below HT_.out (by repeat (first | (with_reducible first | exact HB.out | apply below_alloc | apply pw_below_drewN | apply below_drew1) | exact HB.out))); rintro e w9 ⟨v108, rfl, ho0, hb⟩; refine ⟨_, rfl, ?_⟩; have n0_ := Aside0.mk (Kd.R_below (by (with_reducible repeat (first | apply Kd.R_alloc | apply Kd.R_drewN | apply Kd.R_drew)); exact HO106.out) hb); have n1_ := Aside0.mk (Kd.R_lower ho0 (below_size (by repeat (first | (with_reducible first | exact HB.out | apply below_alloc | apply pw_below_drewN | apply below_drew1) | exact HB.out)))); have n2_ := Aside0.mk (below_step (by repeat (first | (with_reducible first | exact HB.out | apply below_alloc | apply pw_below_drewN | apply below_drew1) | exact HB.out)) hb); clear HO106; clear HB; have HO106 := n0_; have HO109 := n1_; have HB := n2_; clear n0_ n1_ n2_; (try clear hb); (try clear hb2); (try clear hk); (try clear hi); (try clear ho0)) | ((with_reducible refine gate_dst (N := 5) rfl ?_); (try (refine gate_guard (by rfl) ?_; dsimp only)); refine Kd.R_lit (Kd.int .u8) _ 5 ?hg (N := 5) ?hd (xs := ([1, 0, 1, 1, 0, 1, 1, 1, 6] : List Int)) (inner := [.int .u8 1, .int .u8 0, .int .u8 1, .int .u8 1, .int .u8 0, .int .u8 1, .int .u8 1, .int .u8 1, .int .u8 6]) (ok := fun _ => True) (okp := fun _ => True) ?hr ?hp (fun _ hk => hk) trivial (Below.refl _ _) (Nat.le_refl _) (by simp) ?_; (case hd => rfl); (case hg => rfl); (case hr => first | (go_simp; done) | (go_simp; rfl)); (case hp => exact (Reps.one (show Kd.M (Kd.int .u8) _ _ _ 1 [.int .u8 1] from rfl) (Reps.one (show Kd.M (Kd.int .u8) _ _ _ 0 [.int .u8 0] from rfl) (Reps.one (show Kd.M (Kd.int .u8) _ _ _ 1 [.int .u8 1] from rfl) (Reps.one (show Kd.M (Kd.int .u8) _ _ _ 1 [.int .u8 1] from rfl) (Reps.one (show Kd.M (Kd.int .u8) _ _ _ 0 [.int .u8 0] from rfl) (Reps.one (show Kd.M (Kd.int .u8) _ _ _ 1 [.int .u8 1] from rfl) (Reps.one (show Kd.M (Kd.int .u8) _ _ _ 1 [.int .u8 1] from rfl) (Reps.one (show Kd.M (Kd.int .u8) _ _ _ 1 [.int .u8 1] from rfl) (Reps.one (show Kd.M (Kd.int .u8) _ _ _ 6 [.int .u8 6] from rfl) (Reps.none _ _))))))))))); intro v111 w10 ho11 hb hg_ hnew_; clear hg_ hnew_; (first | rw [← Ny110.out] at ho11 | (simp only [Int.reduceToNat] at ho11; rw [← Ny110.out] at ho11)); have n0_ := Aside0.mk (Kd.R_below (by (with_reducible repeat (first | apply Kd.R_alloc | apply Kd.R_drewN | apply Kd.R_drew)); exact HO106.out) hb); have n1_ := Aside0.mk (Kd.R_elder' (by (with_reducible repeat (first | apply Kd.R_alloc | apply Kd.R_drewN | apply Kd.R_drew)); exact HO109.out) (Kd.R_base ho11) hb); have n2_ := Aside0.mk (Kd.R_lower (Kd.R_new' ho11 (Kd.R_lt (by (with_reducible repeat (first | apply Kd.R_alloc | apply Kd.R_drewN | apply Kd.R_drew)); exact HO109.out))) (below_size (by repeat (first | (with_reducible first | exact HB.out | apply below_alloc | apply pw_below_drewN | apply below_drew1) | exact HB.out)))); have n3_ := Aside0.mk (below_step (by repeat (first | (with_reducible first | exact HB.out | apply below_alloc | apply pw_below_drewN | apply below_drew1) | exact HB.out)) hb); clear HO106; clear HO109; clear HB; have HO106 := n0_; have HO109 := n1_; have HO112 := n2_; have HB := n3_; clear n0_ n1_ n2_ n3_; clear hb ho11; obtain ⟨Ao12, co12, eo12⟩ := Kd.R_slice HO109.out; subst eo12; obtain ⟨Ao13, co13, eo13⟩ := Kd.R_slice HO112.out; subst eo13) | ((with_reducible refine gate_callee (f := 7) rfl ?_); refine goesL_ (some 6) rfl rfl Tryz.func7 (by kernel_rfl) rfl #[.slice Ao12 t107.length co12, .slice Ao13 y110.length co13] rfl (by (try simp only [List.map_toArray, List.map_cons, List.map_nil]); first | done | rfl | (simp only [List.length_drop, List.length_take]; rfl)) ?_; (with_reducible refine (screelaw8_same.calls _ _ t107 _ _ y110 true _ ?side1 ?side2 ?side3 ?side4 A2.out).mono ?_); (case side1 => repeat (first | exact (Kd.R_reads' HO109.out).2.2 | (with_reducible refine Kd.C_alloc ?_ _) | (with_reducible refine Kd.C_drewN ?_ _) | (with_reducible refine Kd.C_drew ?_))); (case side2 => exact (Kd.R_reads' HO109.out).2.1); (case side3 => repeat (first | exact (Kd.R_reads' HO112.out).2.2 | (with_reducible refine Kd.C_alloc ?_ _) | (with_reducible refine Kd.C_drewN ?_ _) | (with_reducible refine Kd.C_drew ?_))); (case side4 => exact (Kd.R_reads' HO112.out).2.1); rintro e w' ⟨rfl, ⟨nd, rfl⟩⟩; refine ⟨_, rfl, ?_⟩) | ((with_reducible refine gate_dst (N := 8) rfl ?_); (try (refine gate_guard (by rfl) ?_; dsimp only)); refine Kd.R_lit (Kd.int .u8) _ 5 ?hg (N := 8) ?hd (xs := ([0, 0, 0, 0, 0, 0, 0, 0, 1] : List Int)) (inner := [.int .u8 0, .int .u8 0, .int .u8 0, .int .u8 0, .int .u8 0, .int .u8 0, .int .u8 0, .int .u8 0, .int .u8 1]) (ok := fun _ => True) (okp := fun _ => True) ?hr ?hp (fun _ hk => hk) trivial (Below.refl _ _) (Nat.le_refl _) (by simp) ?_; (case hd => rfl); (case hg => rfl); (case hr => first | (go_simp; done) | (go_simp; rfl)); (case hp => exact (Reps.one (show Kd.M (Kd.int .u8) _ _ _ 0 [.int .u8 0] from rfl) (Reps.one (show Kd.M (Kd.int .u8) _ _ _ 0 [.int .u8 0] from rfl) (Reps.one (show Kd.M (Kd.int .u8) _ _ _ 0 [.int .u8 0] from rfl) (Reps.one (show Kd.M (Kd.int .u8) _ _ _ 0 [.int .u8 0] from rfl) (Reps.one (show Kd.M (Kd.int .u8) _ _ _ 0 [.int .u8 0] from rfl) (Reps.one (show Kd.M (Kd.int .u8) _ _ _ 0 [.int .u8 0] from rfl) (Reps.one (show Kd.M (Kd.int .u8) _ _ _ 0 [.int .u8 0] from rfl) (Reps.one (show Kd.M (Kd.int .u8) _ _ _ 0 [.int .u8 0] from rfl) (Reps.one (show Kd.M (Kd.int .u8) _ _ _ 1 [.int .u8 1] from rfl) (Reps.none _ _))))))))))); intro v115 w14 ho15 hb hg_ hnew_; clear hg_ hnew_; (first | rw [← Ny114.out] at ho15 | (simp only [Int.reduceToNat] at ho15; rw [← Ny114.out] at ho15)); have n0_ := Aside0.mk (Kd.R_below (by (with_reducible repeat (first | apply Kd.R_alloc | apply Kd.R_drewN | apply Kd.R_drew)); exact HO106.out) hb); have n1_ := Aside0.mk (Kd.R_elder' (by (with_reducible repeat (first | apply Kd.R_alloc | apply Kd.R_drewN | apply Kd.R_drew)); exact HO109.out) (Kd.R_base ho15) hb); have n2_ := Aside0.mk (Kd.R_elder' (by (with_reducible repeat (first | apply Kd.R_alloc | apply Kd.R_drewN | apply Kd.R_drew)); exact HO112.out) (Kd.R_base ho15) hb); have n3_ := Aside0.mk (Kd.R_lower (Kd.R_new' (Kd.R_new' ho15 (Kd.R_lt (by (with_reducible repeat (first | apply Kd.R_alloc | apply Kd.R_drewN | apply Kd.R_drew)); exact HO109.out))) (Kd.R_lt (by (with_reducible repeat (first | apply Kd.R_alloc | apply Kd.R_drewN | apply Kd.R_drew)); exact HO112.out))) (below_size (by repeat (first | (with_reducible first | exact HB.out | apply below_alloc | apply pw_below_drewN | apply below_drew1) | exact HB.out)))); have n4_ := Aside0.mk (below_step (by repeat (first | (with_reducible first | exact HB.out | apply below_alloc | apply pw_below_drewN | apply below_drew1) | exact HB.out)) hb); clear HO106; clear HO109; clear HO112; clear HB; have HO106 := n0_; have HO109 := n1_; have HO112 := n2_; have HO116 := n3_; have HB := n4_; clear n0_ n1_ n2_ n3_ n4_; clear hb ho15; obtain ⟨Ao16, co16, eo16⟩ := Kd.R_slice HO116.out; subst eo16) | (go_at_call 11; (with_reducible refine (bloom_May.calls _ _ y114 (⟨#[97]⟩ : ByteArray) true _ ?side1 ?side2 A4.out ?side3).mono ?_); (case side1 => repeat (first | exact (Kd.R_reads' HO116.out).2.2 | (with_reducible refine Kd.C_alloc ?_ _) | (with_reducible refine Kd.C_drewN ?_ _) | (with_reducible refine Kd.C_drew ?_))); (case side2 => exact (Kd.R_reads' HO116.out).2.1); (case side3 => first | (with_reducible exact HT_.out) | exact GT.below HT_.out (by repeat (first | (with_reducible first | exact HB.out | apply below_alloc | apply pw_below_drewN | apply below_drew1) | exact HB.out))); rintro e w17 ⟨rfl, hb⟩; have n0_ := Aside0.mk (Kd.R_below (by (with_reducible repeat (first | apply Kd.R_alloc | apply Kd.R_drewN | apply Kd.R_drew)); exact HO106.out) hb); have n1_ := Aside0.mk (Kd.R_below (by (with_reducible repeat (first | apply Kd.R_alloc | apply Kd.R_drewN | apply Kd.R_drew)); exact HO109.out) hb); have n2_ := Aside0.mk (Kd.R_below (by (with_reducible repeat (first | apply Kd.R_alloc | apply Kd.R_drewN | apply Kd.R_drew)); exact HO112.out) hb); have n3_ := Aside0.mk (Kd.R_below (by (with_reducible repeat (first | apply Kd.R_alloc | apply Kd.R_drewN | apply Kd.R_drew)); exact HO116.out) hb); have n4_ := Aside0.mk (below_step (by repeat (first | (with_reducible first | exact HB.out | apply below_alloc | apply pw_below_drewN | apply below_drew1) | exact HB.out)) hb); clear HO106; clear HO109; clear HO112; clear HO116; clear HB; have HO106 := n0_; have HO109 := n1_; have HO112 := n2_; have HO116 := n3_; have HB := n4_; clear n0_ n1_ n2_ n3_ n4_; (try clear hb); (try clear hb2); (try clear hk); (try clear hi)))
      go_ret
      exact ⟨by first | rfl | (simp [errW_none, errW_some] <;> rfl) | (simp [*, errW_none, errW_some] <;> rfl), by repeat (first | (with_reducible first | exact HB.out | apply below_alloc | apply pw_below_drewN | apply below_drew1) | exact HB.out)⟩
    · replace c5 := Bool.eq_false_iff.mpr c5
      subst c5
      have H1 : ((bloom_May.f ([] : List Int) (⟨#[97]⟩ : ByteArray)).bind fun t118 => (some t118)) = some r := by rw [if_neg (show ¬ (false = true) by decide)] at H; exact H
      clear H
      have H := H1
      clear H1
      replace H := Option.bind_eq_some_iff.mp H
      obtain ⟨t118, A180, H⟩ := H
      replace H : (some t118) = some r := H
      have A18 := Aside0.mk A180
      clear A180
      obtain rfl := Option.some.inj H
      go_enter Tryz.func4, Tryz.ntmps4
      go_wp2_with (first | ((with_reducible refine gate_dst (N := 2) rfl ?_); (try (refine gate_guard (by rfl) ?_; dsimp only)); refine Kd.R_lit Kd.string _ 9 ?hg (N := 2) ?hd (xs := ([(⟨#[97]⟩ : ByteArray)] : List ByteArray)) (inner := [.string (⟨#[97]⟩ : ByteArray)]) (ok := fun _ => True) (okp := fun _ => True) ?hr ?hp (fun _ hk => hk) trivial (Below.refl _ _) (Nat.le_refl _) (by simp) ?_; (case hd => rfl); (case hg => rfl); (case hr => first | (go_simp; done) | (go_simp; rfl)); (case hp => exact (Reps.one (show Kd.M Kd.string _ _ _ (⟨#[97]⟩ : ByteArray) [.string (⟨#[97]⟩ : ByteArray)] from rfl) (Reps.none _ _))); intro v105 w19 ho20 hb hg_ hnew_; clear hg_ hnew_; (first | rw [← Ny104.out] at ho20 | (simp only [Int.reduceToNat] at ho20; rw [← Ny104.out] at ho20)); have n0_ := Aside0.mk (Kd.R_lower ho20 (below_size (by repeat (first | (with_reducible first | exact HB.out | apply below_alloc | apply pw_below_drewN | apply below_drew1) | exact HB.out)))); have n1_ := Aside0.mk (below_step (by repeat (first | (with_reducible first | exact HB.out | apply below_alloc | apply pw_below_drewN | apply below_drew1) | exact HB.out)) hb); clear HB; have HO106 := n0_; have HB := n1_; clear n0_ n1_; clear hb ho20; obtain ⟨Ao21, co21, eo21⟩ := Kd.R_slice HO106.out; subst eo21) | ((with_reducible refine gate_callee (f := 6) rfl ?_); refine goesL_ (some 3) rfl rfl Tryz.func6 (by kernel_rfl) rfl #[.slice Ao21 y104.length co21, .int .i64 10] rfl (by (try simp only [List.map_toArray, List.map_cons, List.map_nil]); first | done | rfl | (simp only [List.length_drop, List.length_take]; rfl)) ?_; (with_reducible refine (bloom_Make.calls _ _ y104 10 t107 _ ?side1 ?side2 A1.out ?side3).mono ?_); (case side1 => repeat (first | exact (Kd.R_reads' HO106.out).2.2 | (with_reducible refine Kd.C_alloc ?_ _) | (with_reducible refine Kd.C_drewN ?_ _) | (with_reducible refine Kd.C_drew ?_))); (case side2 => exact (Kd.R_reads' HO106.out).2.1); (case side3 => first | (with_reducible exact HT_.out) | exact GT.below HT_.out (by repeat (first | (with_reducible first | exact HB.out | apply below_alloc | apply pw_below_drewN | apply below_drew1) | exact HB.out))); rintro e w22 ⟨v108, rfl, ho0, hb⟩; refine ⟨_, rfl, ?_⟩; have n0_ := Aside0.mk (Kd.R_below (by (with_reducible repeat (first | apply Kd.R_alloc | apply Kd.R_drewN | apply Kd.R_drew)); exact HO106.out) hb); have n1_ := Aside0.mk (Kd.R_lower ho0 (below_size (by repeat (first | (with_reducible first | exact HB.out | apply below_alloc | apply pw_below_drewN | apply below_drew1) | exact HB.out)))); have n2_ := Aside0.mk (below_step (by repeat (first | (with_reducible first | exact HB.out | apply below_alloc | apply pw_below_drewN | apply below_drew1) | exact HB.out)) hb); clear HO106; clear HB; have HO106 := n0_; have HO109 := n1_; have HB := n2_; clear n0_ n1_ n2_; (try clear hb); (try clear hb2); (try clear hk); (try clear hi); (try clear ho0)) | ((with_reducible refine gate_dst (N := 5) rfl ?_); (try (refine gate_guard (by rfl) ?_; dsimp only)); refine Kd.R_lit (Kd.int .u8) _ 5 ?hg (N := 5) ?hd (xs := ([1, 0, 1, 1, 0, 1, 1, 1, 6] : List Int)) (inner := [.int .u8 1, .int .u8 0, .int .u8 1, .int .u8 1, .int .u8 0, .int .u8 1, .int .u8 1, .int .u8 1, .int .u8 6]) (ok := fun _ => True) (okp := fun _ => True) ?hr ?hp (fun _ hk => hk) trivial (Below.refl _ _) (Nat.le_refl _) (by simp) ?_; (case hd => rfl); (case hg => rfl); (case hr => first | (go_simp; done) | (go_simp; rfl)); (case hp => exact (Reps.one (show Kd.M (Kd.int .u8) _ _ _ 1 [.int .u8 1] from rfl) (Reps.one (show Kd.M (Kd.int .u8) _ _ _ 0 [.int .u8 0] from rfl) (Reps.one (show Kd.M (Kd.int .u8) _ _ _ 1 [.int .u8 1] from rfl) (Reps.one (show Kd.M (Kd.int .u8) _ _ _ 1 [.int .u8 1] from rfl) (Reps.one (show Kd.M (Kd.int .u8) _ _ _ 0 [.int .u8 0] from rfl) (Reps.one (show Kd.M (Kd.int .u8) _ _ _ 1 [.int .u8 1] from rfl) (Reps.one (show Kd.M (Kd.int .u8) _ _ _ 1 [.int .u8 1] from rfl) (Reps.one (show Kd.M (Kd.int .u8) _ _ _ 1 [.int .u8 1] from rfl) (Reps.one (show Kd.M (Kd.int .u8) _ _ _ 6 [.int .u8 6] from rfl) (Reps.none _ _))))))))))); intro v111 w23 ho24 hb hg_ hnew_; clear hg_ hnew_; (first | rw [← Ny110.out] at ho24 | (simp only [Int.reduceToNat] at ho24; rw [← Ny110.out] at ho24)); have n0_ := Aside0.mk (Kd.R_below (by (with_reducible repeat (first | apply Kd.R_alloc | apply Kd.R_drewN | apply Kd.R_drew)); exact HO106.out) hb); have n1_ := Aside0.mk (Kd.R_elder' (by (with_reducible repeat (first | apply Kd.R_alloc | apply Kd.R_drewN | apply Kd.R_drew)); exact HO109.out) (Kd.R_base ho24) hb); have n2_ := Aside0.mk (Kd.R_lower (Kd.R_new' ho24 (Kd.R_lt (by (with_reducible repeat (first | apply Kd.R_alloc | apply Kd.R_drewN | apply Kd.R_drew)); exact HO109.out))) (below_size (by repeat (first | (with_reducible first | exact HB.out | apply below_alloc | apply pw_below_drewN | apply below_drew1) | exact HB.out)))); have n3_ := Aside0.mk (below_step (by repeat (first | (with_reducible first | exact HB.out | apply below_alloc | apply pw_below_drewN | apply below_drew1) | exact HB.out)) hb); clear HO106; clear HO109; clear HB; have HO106 := n0_; have HO109 := n1_; have HO112 := n2_; have HB := n3_; clear n0_ n1_ n2_ n3_; clear hb ho24; obtain ⟨Ao25, co25, eo25⟩ := Kd.R_slice HO109.out; subst eo25; obtain ⟨Ao26, co26, eo26⟩ := Kd.R_slice HO112.out; subst eo26) | ((with_reducible refine gate_callee (f := 7) rfl ?_); refine goesL_ (some 6) rfl rfl Tryz.func7 (by kernel_rfl) rfl #[.slice Ao25 t107.length co25, .slice Ao26 y110.length co26] rfl (by (try simp only [List.map_toArray, List.map_cons, List.map_nil]); first | done | rfl | (simp only [List.length_drop, List.length_take]; rfl)) ?_; (with_reducible refine (screelaw8_same.calls _ _ t107 _ _ y110 true _ ?side1 ?side2 ?side3 ?side4 A2.out).mono ?_); (case side1 => repeat (first | exact (Kd.R_reads' HO109.out).2.2 | (with_reducible refine Kd.C_alloc ?_ _) | (with_reducible refine Kd.C_drewN ?_ _) | (with_reducible refine Kd.C_drew ?_))); (case side2 => exact (Kd.R_reads' HO109.out).2.1); (case side3 => repeat (first | exact (Kd.R_reads' HO112.out).2.2 | (with_reducible refine Kd.C_alloc ?_ _) | (with_reducible refine Kd.C_drewN ?_ _) | (with_reducible refine Kd.C_drew ?_))); (case side4 => exact (Kd.R_reads' HO112.out).2.1); rintro e w' ⟨rfl, ⟨nd, rfl⟩⟩; refine ⟨_, rfl, ?_⟩) | ((with_reducible refine gate_dst (N := 8) rfl ?_); (try (refine gate_guard (by rfl) ?_; dsimp only)); refine Kd.R_lit (Kd.int .u8) _ 5 ?hg (N := 8) ?hd (xs := ([0, 0, 0, 0, 0, 0, 0, 0, 1] : List Int)) (inner := [.int .u8 0, .int .u8 0, .int .u8 0, .int .u8 0, .int .u8 0, .int .u8 0, .int .u8 0, .int .u8 0, .int .u8 1]) (ok := fun _ => True) (okp := fun _ => True) ?hr ?hp (fun _ hk => hk) trivial (Below.refl _ _) (Nat.le_refl _) (by simp) ?_; (case hd => rfl); (case hg => rfl); (case hr => first | (go_simp; done) | (go_simp; rfl)); (case hp => exact (Reps.one (show Kd.M (Kd.int .u8) _ _ _ 0 [.int .u8 0] from rfl) (Reps.one (show Kd.M (Kd.int .u8) _ _ _ 0 [.int .u8 0] from rfl) (Reps.one (show Kd.M (Kd.int .u8) _ _ _ 0 [.int .u8 0] from rfl) (Reps.one (show Kd.M (Kd.int .u8) _ _ _ 0 [.int .u8 0] from rfl) (Reps.one (show Kd.M (Kd.int .u8) _ _ _ 0 [.int .u8 0] from rfl) (Reps.one (show Kd.M (Kd.int .u8) _ _ _ 0 [.int .u8 0] from rfl) (Reps.one (show Kd.M (Kd.int .u8) _ _ _ 0 [.int .u8 0] from rfl) (Reps.one (show Kd.M (Kd.int .u8) _ _ _ 0 [.int .u8 0] from rfl) (Reps.one (show Kd.M (Kd.int .u8) _ _ _ 1 [.int .u8 1] from rfl) (Reps.none _ _))))))))))); intro v115 w27 ho28 hb hg_ hnew_; clear hg_ hnew_; (first | rw [← Ny114.out] at ho28 | (simp only [Int.reduceToNat] at ho28; rw [← Ny114.out] at ho28)); have n0_ := Aside0.mk (Kd.R_below (by (with_reducible repeat (first | apply Kd.R_alloc | apply Kd.R_drewN | apply Kd.R_drew)); exact HO106.out) hb); have n1_ := Aside0.mk (Kd.R_elder' (by (with_reducible repeat (first | apply Kd.R_alloc | apply Kd.R_drewN | apply Kd.R_drew)); exact HO109.out) (Kd.R_base ho28) hb); have n2_ := Aside0.mk (Kd.R_elder' (by (with_reducible repeat (first | apply Kd.R_alloc | apply Kd.R_drewN | apply Kd.R_drew)); exact HO112.out) (Kd.R_base ho28) hb); have n3_ := Aside0.mk (Kd.R_lower (Kd.R_new' (Kd.R_new' ho28 (Kd.R_lt (by (with_reducible repeat (first | apply Kd.R_alloc | apply Kd.R_drewN | apply Kd.R_drew)); exact HO109.out))) (Kd.R_lt (by (with_reducible repeat (first | apply Kd.R_alloc | apply Kd.R_drewN | apply Kd.R_drew)); exact HO112.out))) (below_size (by repeat (first | (with_reducible first | exact HB.out | apply below_alloc | apply pw_below_drewN | apply below_drew1) | exact HB.out)))); have n4_ := Aside0.mk (below_step (by repeat (first | (with_reducible first | exact HB.out | apply below_alloc | apply pw_below_drewN | apply below_drew1) | exact HB.out)) hb); clear HO106; clear HO109; clear HO112; clear HB; have HO106 := n0_; have HO109 := n1_; have HO112 := n2_; have HO116 := n3_; have HB := n4_; clear n0_ n1_ n2_ n3_ n4_; clear hb ho28; obtain ⟨Ao29, co29, eo29⟩ := Kd.R_slice HO116.out; subst eo29) | (go_at_call 11; (with_reducible refine (bloom_May.calls _ _ y114 (⟨#[97]⟩ : ByteArray) false _ ?side1 ?side2 A4.out ?side3).mono ?_); (case side1 => repeat (first | exact (Kd.R_reads' HO116.out).2.2 | (with_reducible refine Kd.C_alloc ?_ _) | (with_reducible refine Kd.C_drewN ?_ _) | (with_reducible refine Kd.C_drew ?_))); (case side2 => exact (Kd.R_reads' HO116.out).2.1); (case side3 => first | (with_reducible exact HT_.out) | exact GT.below HT_.out (by repeat (first | (with_reducible first | exact HB.out | apply below_alloc | apply pw_below_drewN | apply below_drew1) | exact HB.out))); rintro e w30 ⟨rfl, hb⟩; have n0_ := Aside0.mk (Kd.R_below (by (with_reducible repeat (first | apply Kd.R_alloc | apply Kd.R_drewN | apply Kd.R_drew)); exact HO106.out) hb); have n1_ := Aside0.mk (Kd.R_below (by (with_reducible repeat (first | apply Kd.R_alloc | apply Kd.R_drewN | apply Kd.R_drew)); exact HO109.out) hb); have n2_ := Aside0.mk (Kd.R_below (by (with_reducible repeat (first | apply Kd.R_alloc | apply Kd.R_drewN | apply Kd.R_drew)); exact HO112.out) hb); have n3_ := Aside0.mk (Kd.R_below (by (with_reducible repeat (first | apply Kd.R_alloc | apply Kd.R_drewN | apply Kd.R_drew)); exact HO116.out) hb); have n4_ := Aside0.mk (below_step (by repeat (first | (with_reducible first | exact HB.out | apply below_alloc | apply pw_below_drewN | apply below_drew1) | exact HB.out)) hb); clear HO106; clear HO109; clear HO112; clear HO116; clear HB; have HO106 := n0_; have HO109 := n1_; have HO112 := n2_; have HO116 := n3_; have HB := n4_; clear n0_ n1_ n2_ n3_ n4_; (try clear hb); (try clear hb2); (try clear hk); (try clear hi)) | (go_at_call 11; (refine (bloom_May.calls _ _ ([] : List Int) (⟨#[97]⟩ : ByteArray) t118 _ ?side1 ?side2 A18.out ?side3).mono ?_); (case side1 => exact Kd.C_nil _ _); (case side2 => exact Nat.le_refl _); (case side3 => first | (with_reducible exact HT_.out) | exact GT.below HT_.out (by repeat (first | (with_reducible first | exact HB.out | apply below_alloc | apply pw_below_drewN | apply below_drew1) | exact HB.out))); rintro e w31 ⟨rfl, hb⟩; have n0_ := Aside0.mk (Kd.R_below (by (with_reducible repeat (first | apply Kd.R_alloc | apply Kd.R_drewN | apply Kd.R_drew)); exact HO106.out) hb); have n1_ := Aside0.mk (Kd.R_below (by (with_reducible repeat (first | apply Kd.R_alloc | apply Kd.R_drewN | apply Kd.R_drew)); exact HO109.out) hb); have n2_ := Aside0.mk (Kd.R_below (by (with_reducible repeat (first | apply Kd.R_alloc | apply Kd.R_drewN | apply Kd.R_drew)); exact HO112.out) hb); have n3_ := Aside0.mk (Kd.R_below (by (with_reducible repeat (first | apply Kd.R_alloc | apply Kd.R_drewN | apply Kd.R_drew)); exact HO116.out) hb); have n4_ := Aside0.mk (below_step (by repeat (first | (with_reducible first | exact HB.out | apply below_alloc | apply pw_below_drewN | apply below_drew1) | exact HB.out)) hb); clear HO106; clear HO109; clear HO112; clear HO116; clear HB; have HO106 := n0_; have HO109 := n1_; have HO112 := n2_; have HO116 := n3_; have HB := n4_; clear n0_ n1_ n2_ n3_ n4_; (try clear hb); (try clear hb2); (try clear hk); (try clear hi)))
      go_ret
      exact ⟨by first | rfl | (simp [errW_none, errW_some] <;> rfl) | (simp [*, errW_none, errW_some] <;> rfl), by repeat (first | (with_reducible first | exact HB.out | apply below_alloc | apply pw_below_drewN | apply below_drew1) | exact HB.out)⟩
  · replace c3 := Bool.eq_false_iff.mpr c3
    subst c3
    have H1 : (some false) = some r := by rw [if_neg (show ¬ (false = true) by decide)] at H; exact H
    clear H
    have H := H1
    clear H1
    obtain rfl := Option.some.inj H
    go_enter Tryz.func4, Tryz.ntmps4
    go_wp2_with (first | ((with_reducible refine gate_dst (N := 2) rfl ?_); (try (refine gate_guard (by rfl) ?_; dsimp only)); refine Kd.R_lit Kd.string _ 9 ?hg (N := 2) ?hd (xs := ([(⟨#[97]⟩ : ByteArray)] : List ByteArray)) (inner := [.string (⟨#[97]⟩ : ByteArray)]) (ok := fun _ => True) (okp := fun _ => True) ?hr ?hp (fun _ hk => hk) trivial (Below.refl _ _) (Nat.le_refl _) (by simp) ?_; (case hd => rfl); (case hg => rfl); (case hr => first | (go_simp; done) | (go_simp; rfl)); (case hp => exact (Reps.one (show Kd.M Kd.string _ _ _ (⟨#[97]⟩ : ByteArray) [.string (⟨#[97]⟩ : ByteArray)] from rfl) (Reps.none _ _))); intro v105 w32 ho33 hb hg_ hnew_; clear hg_ hnew_; (first | rw [← Ny104.out] at ho33 | (simp only [Int.reduceToNat] at ho33; rw [← Ny104.out] at ho33)); have n0_ := Aside0.mk (Kd.R_lower ho33 (below_size (by repeat (first | (with_reducible first | exact HB.out | apply below_alloc | apply pw_below_drewN | apply below_drew1) | exact HB.out)))); have n1_ := Aside0.mk (below_step (by repeat (first | (with_reducible first | exact HB.out | apply below_alloc | apply pw_below_drewN | apply below_drew1) | exact HB.out)) hb); clear HB; have HO106 := n0_; have HB := n1_; clear n0_ n1_; clear hb ho33; obtain ⟨Ao34, co34, eo34⟩ := Kd.R_slice HO106.out; subst eo34) | ((with_reducible refine gate_callee (f := 6) rfl ?_); refine goesL_ (some 3) rfl rfl Tryz.func6 (by kernel_rfl) rfl #[.slice Ao34 y104.length co34, .int .i64 10] rfl (by (try simp only [List.map_toArray, List.map_cons, List.map_nil]); first | done | rfl | (simp only [List.length_drop, List.length_take]; rfl)) ?_; (with_reducible refine (bloom_Make.calls _ _ y104 10 t107 _ ?side1 ?side2 A1.out ?side3).mono ?_); (case side1 => repeat (first | exact (Kd.R_reads' HO106.out).2.2 | (with_reducible refine Kd.C_alloc ?_ _) | (with_reducible refine Kd.C_drewN ?_ _) | (with_reducible refine Kd.C_drew ?_))); (case side2 => exact (Kd.R_reads' HO106.out).2.1); (case side3 => first | (with_reducible exact HT_.out) | exact GT.below HT_.out (by repeat (first | (with_reducible first | exact HB.out | apply below_alloc | apply pw_below_drewN | apply below_drew1) | exact HB.out))); rintro e w35 ⟨v108, rfl, ho0, hb⟩; refine ⟨_, rfl, ?_⟩; have n0_ := Aside0.mk (Kd.R_below (by (with_reducible repeat (first | apply Kd.R_alloc | apply Kd.R_drewN | apply Kd.R_drew)); exact HO106.out) hb); have n1_ := Aside0.mk (Kd.R_lower ho0 (below_size (by repeat (first | (with_reducible first | exact HB.out | apply below_alloc | apply pw_below_drewN | apply below_drew1) | exact HB.out)))); have n2_ := Aside0.mk (below_step (by repeat (first | (with_reducible first | exact HB.out | apply below_alloc | apply pw_below_drewN | apply below_drew1) | exact HB.out)) hb); clear HO106; clear HB; have HO106 := n0_; have HO109 := n1_; have HB := n2_; clear n0_ n1_ n2_; (try clear hb); (try clear hb2); (try clear hk); (try clear hi); (try clear ho0)) | ((with_reducible refine gate_dst (N := 5) rfl ?_); (try (refine gate_guard (by rfl) ?_; dsimp only)); refine Kd.R_lit (Kd.int .u8) _ 5 ?hg (N := 5) ?hd (xs := ([1, 0, 1, 1, 0, 1, 1, 1, 6] : List Int)) (inner := [.int .u8 1, .int .u8 0, .int .u8 1, .int .u8 1, .int .u8 0, .int .u8 1, .int .u8 1, .int .u8 1, .int .u8 6]) (ok := fun _ => True) (okp := fun _ => True) ?hr ?hp (fun _ hk => hk) trivial (Below.refl _ _) (Nat.le_refl _) (by simp) ?_; (case hd => rfl); (case hg => rfl); (case hr => first | (go_simp; done) | (go_simp; rfl)); (case hp => exact (Reps.one (show Kd.M (Kd.int .u8) _ _ _ 1 [.int .u8 1] from rfl) (Reps.one (show Kd.M (Kd.int .u8) _ _ _ 0 [.int .u8 0] from rfl) (Reps.one (show Kd.M (Kd.int .u8) _ _ _ 1 [.int .u8 1] from rfl) (Reps.one (show Kd.M (Kd.int .u8) _ _ _ 1 [.int .u8 1] from rfl) (Reps.one (show Kd.M (Kd.int .u8) _ _ _ 0 [.int .u8 0] from rfl) (Reps.one (show Kd.M (Kd.int .u8) _ _ _ 1 [.int .u8 1] from rfl) (Reps.one (show Kd.M (Kd.int .u8) _ _ _ 1 [.int .u8 1] from rfl) (Reps.one (show Kd.M (Kd.int .u8) _ _ _ 1 [.int .u8 1] from rfl) (Reps.one (show Kd.M (Kd.int .u8) _ _ _ 6 [.int .u8 6] from rfl) (Reps.none _ _))))))))))); intro v111 w36 ho37 hb hg_ hnew_; clear hg_ hnew_; (first | rw [← Ny110.out] at ho37 | (simp only [Int.reduceToNat] at ho37; rw [← Ny110.out] at ho37)); have n0_ := Aside0.mk (Kd.R_below (by (with_reducible repeat (first | apply Kd.R_alloc | apply Kd.R_drewN | apply Kd.R_drew)); exact HO106.out) hb); have n1_ := Aside0.mk (Kd.R_elder' (by (with_reducible repeat (first | apply Kd.R_alloc | apply Kd.R_drewN | apply Kd.R_drew)); exact HO109.out) (Kd.R_base ho37) hb); have n2_ := Aside0.mk (Kd.R_lower (Kd.R_new' ho37 (Kd.R_lt (by (with_reducible repeat (first | apply Kd.R_alloc | apply Kd.R_drewN | apply Kd.R_drew)); exact HO109.out))) (below_size (by repeat (first | (with_reducible first | exact HB.out | apply below_alloc | apply pw_below_drewN | apply below_drew1) | exact HB.out)))); have n3_ := Aside0.mk (below_step (by repeat (first | (with_reducible first | exact HB.out | apply below_alloc | apply pw_below_drewN | apply below_drew1) | exact HB.out)) hb); clear HO106; clear HO109; clear HB; have HO106 := n0_; have HO109 := n1_; have HO112 := n2_; have HB := n3_; clear n0_ n1_ n2_ n3_; clear hb ho37; obtain ⟨Ao38, co38, eo38⟩ := Kd.R_slice HO109.out; subst eo38; obtain ⟨Ao39, co39, eo39⟩ := Kd.R_slice HO112.out; subst eo39) | ((with_reducible refine gate_callee (f := 7) rfl ?_); refine goesL_ (some 6) rfl rfl Tryz.func7 (by kernel_rfl) rfl #[.slice Ao38 t107.length co38, .slice Ao39 y110.length co39] rfl (by (try simp only [List.map_toArray, List.map_cons, List.map_nil]); first | done | rfl | (simp only [List.length_drop, List.length_take]; rfl)) ?_; (with_reducible refine (screelaw8_same.calls _ _ t107 _ _ y110 false _ ?side1 ?side2 ?side3 ?side4 A2.out).mono ?_); (case side1 => repeat (first | exact (Kd.R_reads' HO109.out).2.2 | (with_reducible refine Kd.C_alloc ?_ _) | (with_reducible refine Kd.C_drewN ?_ _) | (with_reducible refine Kd.C_drew ?_))); (case side2 => exact (Kd.R_reads' HO109.out).2.1); (case side3 => repeat (first | exact (Kd.R_reads' HO112.out).2.2 | (with_reducible refine Kd.C_alloc ?_ _) | (with_reducible refine Kd.C_drewN ?_ _) | (with_reducible refine Kd.C_drew ?_))); (case side4 => exact (Kd.R_reads' HO112.out).2.1); rintro e w' ⟨rfl, ⟨nd, rfl⟩⟩; refine ⟨_, rfl, ?_⟩))
    go_ret
    exact ⟨by first | rfl | (simp [errW_none, errW_some] <;> rfl) | (simp [*, errW_none, errW_some] <;> rfl), by repeat (first | (with_reducible first | exact HB.out | apply below_alloc | apply pw_below_drewN | apply below_drew1) | exact HB.out)⟩
def screelaw8_some.f (l0 : List ByteArray) : Option (List ByteArray) := if 0 ≤ (mn (l0.length : Int) 4000) then (if (mn (l0.length : Int) 4000) ≤ (l0.length : Int) then (some (l0.take ((mn (l0.length : Int) 4000) : Int).toNat)) else (none)) else (none)
set_option maxHeartbeats 8000000 in
set_option maxRecDepth 100000 in
theorem screelaw8_some.calls (P0_ : Nat → Prop) (u9000_ : Value) (l0 : List ByteArray) (r : List ByteArray) (w0 w : World) (hB : Below w0.heap.size w0 w) (ho0 : Kd.R Kd.string 9 w w0.heap.size P0_ u9000_ l0) (h : screelaw8_some.f l0 = some r) :
    Calls Tryz.prog 5 #[u9000_] w fun e w' => ∃ v0_ : Value, e = .returned (v0_) ∧ Kd.R Kd.string 9 w' w0.heap.size (fun k_ => (P0_ k_ ∨ w.heap.size ≤ k_)) v0_ r ∧ Below w0.heap.size w0 w' ∧ Kept w w' (fun k_ => P0_ k_) := by
  have HO0 := Aside0.mk (show Kd.R Kd.string 9 w w0.heap.size (fun k_ => (P0_ k_ ∨ w.heap.size ≤ k_)) u9000_ l0 from Kd.R_mono ho0 (fun k_ hk => (.inl hk)))
  have HK := Aside0.mk (Kept.refl w (fun k_ => P0_ k_))
  have HW0 := Aside0.mk hB.size
  have HB := Aside0.mk hB
  clear hB
  have H : (if 0 ≤ (mn (l0.length : Int) 4000) then (if (mn (l0.length : Int) 4000) ≤ (l0.length : Int) then (some (l0.take ((mn (l0.length : Int) 4000) : Int).toNat)) else (none)) else (none)) = some r := h
  clear h
  obtain ⟨ji2, hji2⟩ : ∃ j_ : Int, (mn (l0.length : Int) 4000) = j_ := ⟨_, rfl⟩
  replace H : (if 0 ≤ (ji2) then (if (ji2) ≤ (l0.length : Int) then (some (l0.take ((ji2) : Int).toNat)) else (none)) else (none)) = some r := by first | (rw [hji2] at H; exact H) | (simp only [hji2] at H ⊢; exact H)
  (try (have hji2h : ji2 ≤ 4000 := by (rw [← hji2]; unfold mn; (repeat' split) <;> omega)))
  (try (have hji2g : ji2 ≤ 64 := by omega))
  (try (have hji2l : 0 ≤ ji2 := by (rw [← hji2]; unfold mn; (repeat' split) <;> omega)))
  (try (have hji2m : 0 ≤ ji2 := by omega))
  have hji2_ : (if 4000 < (l0.length : Int) then 4000 else (l0.length : Int)) = ji2 := hji2
  by_cases c3 : 0 ≤ (ji2)
  · rw [if_pos c3] at H
    have c3b0 := eq_true c3
    have c3b1 : decide (0 ≤ (ji2)) = true := decide_eq_true c3
    clear c3
    by_cases c4 : (ji2) ≤ (l0.length : Int)
    · rw [if_pos c4] at H
      have c4b0 := eq_true c4
      have c4b1 : decide ((ji2) ≤ (l0.length : Int)) = true := decide_eq_true c4
      clear c4
      obtain ⟨y119, hy119⟩ : ∃ y_ : List ByteArray, y_ = (l0.take ((ji2) : Int).toNat) := ⟨_, rfl⟩
      replace H : (some y119) = some r := by first | (rw [hy119]; with_reducible exact H) | (have H2_ := (Option.bind_some _ _).symm.trans H; rw [hy119]; with_reducible exact H2_) | (have H2_ := (Option.bind_some _ _).symm.trans H; with_reducible exact H2_) | with_reducible exact H | (rw [hy119]; exact H) | exact H
      have Ny119 := Aside0.mk hy119
      clear hy119
      obtain rfl := Option.some.inj H
      obtain ⟨Ao5, co5, eo5⟩ := Kd.R_slice HO0.out
      subst eo5
      have q6 : ((ji2) : Int) ≤ ((l0.length : Int) : Int) := of_decide_eq_true (by first | (with_reducible assumption) | assumption)
      obtain ⟨i06, hi06, _, hsz6, _⟩ := info_parts info9
      have hcut6 := cut_to (P := Tryz.prog) 22 9 .i64 Tryz.underlying22 hi06 Ao5 l0.length co5 (ji2) (of_decide_eq_true (by first | (with_reducible assumption) | assumption)) q6 (Kd.R_reads' HO0.out).2.1
      have hr6 := Kd.R_take (m := ((ji2) : Int).toNat) HO0.out (by omega)
      have hy6 : y119.length = ((ji2) : Int).toNat := (by rw [Ny119.out, List.length_take]; omega)
      rw [← Ny119.out] at hr6
      rw [← hy6] at hr6 hcut6
      clear hy6 hi06 hsz6 HO0
      have HO121 := Aside0.mk hr6
      clear hr6
      replace q6 := eq_true q6
      go_enter Tryz.func5, Tryz.ntmps5
      go_wp2
      go_ret
      exact ⟨_, by first | rfl | (simp [errW_none, errW_some] <;> rfl) | (simp only [← hji2]; first | rfl | (simp [errW_none, errW_some] <;> rfl)) | (simp [*, errW_none, errW_some] <;> rfl), by (with_reducible repeat (first | apply Kd.R_alloc | apply Kd.R_drewN | apply Kd.R_drew)); exact HO121.out, by repeat (first | (with_reducible first | exact HB.out | apply below_alloc | apply pw_below_drewN | apply below_drew1) | exact HB.out), by repeat (first | (with_reducible first | exact HK.out | apply Kept.alloc | apply Kept.drewN | apply Kept.drew) | exact HK.out)⟩
    · rw [if_neg c4] at H
      exact absurd H (by simp)
  · rw [if_neg c3] at H
    exact absurd H (by simp)
def screekept_sameBytes.l0 : Nat → List Int → List Int → Int → Option (Bool)
  | 0, _, _, _ => none
  | k + 1, x0, x1, x5 => if x5 < (x0.length : Int) then (if 0 ≤ x5 then (if x5 < (x1.length : Int) then (if (rd x0 x5) = (rd x1 x5) then (screekept_sameBytes.l0 k x0 x1 (wrap64 (x5 + 1))) else (some false)) else (none)) else (none)) else (some true)
def screekept_sameBytes.f (k : Nat) (l0 : List Int) (l1 : List Int) : Option (Bool) := if (l0.length : Int) = (l1.length : Int) then (screekept_sameBytes.l0 k l0 l1 0) else (some false)
theorem screekept_sameBytes.mono_l : ∀ k, (∀ y0 y1 y2, LeO (screekept_sameBytes.l0 k y0 y1 y2) (screekept_sameBytes.l0 (k + 1) y0 y1 y2))
  | 0 => fun _ _ _ r h => by simp [screekept_sameBytes.l0] at h
  | k + 1 => by
    have ih0 := screekept_sameBytes.mono_l k
    · intro y0 y1 y2
      unfold screekept_sameBytes.l0
      repeat' first
      | (with_reducible exact ih0 _ _ _)
      | (with_reducible exact LeO.refl _)
      | (with_reducible exact LeO.none _)
      | (with_reducible refine LeO.ite ?_ ?_)
      | (with_reducible refine LeO.bind ?_ (fun _ => ?_))
      | exact ih0 _ _ _
      | exact LeO.none _
      | refine LeO.ite ?_ ?_
      | refine LeO.bind ?_ (fun _ => ?_)
theorem screekept_sameBytes.mono : ∀ a0 a1 k, LeO (screekept_sameBytes.f k a0 a1) (screekept_sameBytes.f (k + 1) a0 a1) := by
  intro a0 a1 k
  have ih0 := screekept_sameBytes.mono_l k
  unfold screekept_sameBytes.f
  repeat' first
      | (with_reducible exact ih0 _ _ _)
      | (with_reducible exact LeO.refl _)
      | (with_reducible exact LeO.none _)
      | (with_reducible refine LeO.ite ?_ ?_)
      | (with_reducible refine LeO.bind ?_ (fun _ => ?_))
      | exact ih0 _ _ _
      | exact LeO.none _
      | refine LeO.ite ?_ ?_
      | refine LeO.bind ?_ (fun _ => ?_)
set_option maxHeartbeats 8000000 in
set_option maxRecDepth 100000 in
theorem screekept_sameBytes.calls (k : Nat) (A0 : Option Addr) (c0 : Nat) (l0 : List Int) (A1 : Option Addr) (c1 : Nat) (l1 : List Int) (r : Bool) (w : World) (hr0 : Kd.C (Kd.int .u8) w A0 l0.length l0) (hc0 : l0.length ≤ c0) (hr1 : Kd.C (Kd.int .u8) w A1 l1.length l1) (hc1 : l1.length ≤ c1) (h : screekept_sameBytes.f k l0 l1 = some r) :
    Calls Tryz.prog 38 #[.slice A0 l0.length c0, .slice A1 l1.length c1] w fun e w' => e = .returned (.bool r) ∧ Drawn0 w w' := by
  have HR0 := Aside0.mk hr0
  have HC0 := Aside0.mk hc0
  clear hr0 hc0
  have HR1 := Aside0.mk hr1
  have HC1 := Aside0.mk hc1
  clear hr1 hc1
  have H : (if (l0.length : Int) = (l1.length : Int) then (screekept_sameBytes.l0 k l0 l1 0) else (some false)) = some r := h
  clear h
  by_cases c3 : (l0.length : Int) = (l1.length : Int)
  · rw [if_pos c3] at H
    have c3b0 : ((l0.length : Int) == (l1.length : Int)) = true := beq_iff_eq.mpr c3
    have c3b1 : ((l0.length : Int) != (l1.length : Int)) = false := bne_eq_false_iff_eq.mpr c3
    have c3b2 : (l0.length == l1.length) = true := by first | simpa using c3 | (simp at c3 ⊢; omega)
    clear c3
    have H' := Aside0.mk H
    clear H
    go_enter Tryz.func38, Tryz.ntmps38
    go_wp2
    go_loopg [5] k (fun kq v5 w' => ∃ (x5_1 : Int), v5 = .int .i64 x5_1 ∧ Aside0 (screekept_sameBytes.l0 kq l0 l1 x5_1 = some r) ∧ Aside0 (kq ≤ k) ∧ Drawn0 w w')
    case atStart => exact ⟨(0), (by first | rfl | (simp; done) | (simp [*]; done)), H', ⟨Nat.le_refl _⟩, by repeat (first | exact Drawn0.refl _ | apply Drawn0.step)⟩
    case round =>
      clear H'
      try clear c1
      try clear p2
      try clear c3
      try clear c3b0
      try clear c3b1
      try clear c3b2
      obtain ⟨x5_1, rfl, HA, HK1, ⟨m1, rfl⟩⟩ := hrel
      cases gk with
      | zero => exact absurd HA.out (by simp [screekept_sameBytes.l0])
      | succ k1 =>
        have H := HA.out
        clear HA
        simp only [screekept_sameBytes.l0] at H
        by_cases c4 : x5_1 < (l0.length : Int)
        · rw [if_pos c4] at H
          have c4b0 : decide (x5_1 < (l0.length : Int)) = true := decide_eq_true c4
          clear c4
          by_cases c5 : 0 ≤ x5_1
          · rw [if_pos c5] at H
            have c5b0 : decide (0 ≤ x5_1) = true := decide_eq_true c5
            clear c5
            by_cases c6 : x5_1 < (l1.length : Int)
            · rw [if_pos c6] at H
              have c6b0 : decide (x5_1 < (l1.length : Int)) = true := decide_eq_true c6
              clear c6
              by_cases c7 : (rd l0 x5_1) = (rd l1 x5_1)
              · rw [if_pos c7] at H
                have c7b0 : ((rd l0 x5_1) == (rd l1 x5_1)) = true := beq_iff_eq.mpr c7
                have c7b1 : ((rd l0 x5_1) != (rd l1 x5_1)) = false := bne_eq_false_iff_eq.mpr c7
                clear c7
                have H' := Aside0.mk H
                clear H
                have p122 : 0 ≤ (x5_1 : Int) := of_decide_eq_true (by first | (with_reducible assumption) | assumption)
                have q122 : x5_1 < (l0.length : Int) := of_decide_eq_true (by first | (with_reducible assumption) | assumption)
                obtain ⟨ad122, e122, hx122_0⟩ := Kd.at_int HR0.out x5_1 p122 q122
                cases e122
                replace p122 := eq_true p122
                replace q122 := eq_true q122
                have p123 : 0 ≤ (x5_1 : Int) := of_decide_eq_true (by first | (with_reducible assumption) | assumption)
                have q123 : x5_1 < (l1.length : Int) := of_decide_eq_true (by first | (with_reducible assumption) | assumption)
                obtain ⟨ad123, e123, hx123_0⟩ := Kd.at_int HR1.out x5_1 p123 q123
                cases e123
                replace p123 := eq_true p123
                replace q123 := eq_true q123
                go_wp2
                go_roundg k1
                case measure => have := HK1.out; omega
                case rel => exact ⟨(wrap64 (x5_1 + 1)), (by first | rfl | (simp; done) | (simp [*]; done)), H', ⟨by have := HK1.out; omega⟩, by repeat (first | exact Drawn0.refl _ | apply Drawn0.step)⟩
              · rw [if_neg c7] at H
                have c7b0 : ((rd l0 x5_1) == (rd l1 x5_1)) = false := beq_eq_false_iff_ne.mpr c7
                have c7b1 : ((rd l0 x5_1) != (rd l1 x5_1)) = true := bne_iff_ne.mpr c7
                obtain rfl := Option.some.inj H
                have p122 : 0 ≤ (x5_1 : Int) := of_decide_eq_true (by first | (with_reducible assumption) | assumption)
                have q122 : x5_1 < (l0.length : Int) := of_decide_eq_true (by first | (with_reducible assumption) | assumption)
                obtain ⟨ad122, e122, hx122_0⟩ := Kd.at_int HR0.out x5_1 p122 q122
                cases e122
                replace p122 := eq_true p122
                replace q122 := eq_true q122
                have p123 : 0 ≤ (x5_1 : Int) := of_decide_eq_true (by first | (with_reducible assumption) | assumption)
                have q123 : x5_1 < (l1.length : Int) := of_decide_eq_true (by first | (with_reducible assumption) | assumption)
                obtain ⟨ad123, e123, hx123_0⟩ := Kd.at_int HR1.out x5_1 p123 q123
                cases e123
                replace p123 := eq_true p123
                replace q123 := eq_true q123
                go_wp2
                go_ret
                exact ⟨by first | rfl | (simp; done) | (simp [*]; done), by repeat (first | exact Drawn0.refl _ | apply Drawn0.step)⟩
            · rw [if_neg c6] at H
              exact absurd H (by simp)
          · rw [if_neg c5] at H
            exact absurd H (by simp)
        · rw [if_neg c4] at H
          have c4b0 : decide (x5_1 < (l0.length : Int)) = false := decide_eq_false c4
          clear c4
          obtain rfl := Option.some.inj H
          go_wp2
          go_ret
          exact ⟨by first | rfl | (simp; done) | (simp [*]; done), by repeat (first | exact Drawn0.refl _ | apply Drawn0.step)⟩
  · rw [if_neg c3] at H
    have c3b0 : ((l0.length : Int) == (l1.length : Int)) = false := beq_eq_false_iff_ne.mpr c3
    have c3b1 : ((l0.length : Int) != (l1.length : Int)) = true := bne_iff_ne.mpr c3
    have c3b2 : (l0.length == l1.length) = false := by first | simpa using c3 | (simp at c3 ⊢; omega)
    obtain rfl := Option.some.inj H
    go_enter Tryz.func38, Tryz.ntmps38
    go_wp2
    go_ret
    exact ⟨by first | rfl | (simp; done) | (simp [*]; done), by repeat (first | exact Drawn0.refl _ | apply Drawn0.step)⟩
end Go.Proofs.YtlcohooognjmaaaGreatDoor.QBl
namespace Go.Proofs.YtlcohooognjmaaaGreatDoor.QBl
open Go.Proofs.YtlcohooognjmaaaGreatDoor.Own
open Go.RowKit Go.Proofs.YtlcohooognjmaaaGreatDoorW.PrintWords Go.Proofs.YtlcohooognjmaaaGreatDoorW.PrintLast Go.Proofs.YtlcohooognjmaaaGreatDoorW.PrintMore
attribute [local go_sem] max2_int min2_int max_two min_two max_three min_three max_four min_four   -- for this text's walks alone
set_option linter.unusedVariables false
set_option linter.unusedSimpArgs false
def screelaw8_sameTexts.l0 : Nat → List ByteArray → List ByteArray → Int → Option (Bool)
  | 0, _, _, _ => none
  | k + 1, x0, x1, x5 => if x5 < (x0.length : Int) then (if 0 ≤ x5 then (if x5 < (x1.length : Int) then (if (rdOf ByteArray.empty x0 x5).toList = (rdOf ByteArray.empty x1 x5).toList then (screelaw8_sameTexts.l0 k x0 x1 (wrap64 (x5 + 1))) else (some false)) else (none)) else (none)) else (some true)
def screelaw8_sameTexts.f (k : Nat) (l0 : List ByteArray) (l1 : List ByteArray) : Option (Bool) := if (l0.length : Int) = (l1.length : Int) then (screelaw8_sameTexts.l0 k l0 l1 0) else (some false)
theorem screelaw8_sameTexts.mono_l : ∀ k, (∀ y0 y1 y2, LeO (screelaw8_sameTexts.l0 k y0 y1 y2) (screelaw8_sameTexts.l0 (k + 1) y0 y1 y2))
  | 0 => fun _ _ _ r h => by simp [screelaw8_sameTexts.l0] at h
  | k + 1 => by
    have ih0 := screelaw8_sameTexts.mono_l k
    · intro y0 y1 y2
      unfold screelaw8_sameTexts.l0
      repeat' first
      | (with_reducible exact ih0 _ _ _)
      | (with_reducible exact LeO.refl _)
      | (with_reducible exact LeO.none _)
      | (with_reducible refine LeO.ite ?_ ?_)
      | (with_reducible refine LeO.bind ?_ (fun _ => ?_))
      | exact ih0 _ _ _
      | exact LeO.none _
      | refine LeO.ite ?_ ?_
      | refine LeO.bind ?_ (fun _ => ?_)
theorem screelaw8_sameTexts.mono : ∀ a0 a1 k, LeO (screelaw8_sameTexts.f k a0 a1) (screelaw8_sameTexts.f (k + 1) a0 a1) := by
  intro a0 a1 k
  have ih0 := screelaw8_sameTexts.mono_l k
  unfold screelaw8_sameTexts.f
  repeat' first
      | (with_reducible exact ih0 _ _ _)
      | (with_reducible exact LeO.refl _)
      | (with_reducible exact LeO.none _)
      | (with_reducible refine LeO.ite ?_ ?_)
      | (with_reducible refine LeO.bind ?_ (fun _ => ?_))
      | exact ih0 _ _ _
      | exact LeO.none _
      | refine LeO.ite ?_ ?_
      | refine LeO.bind ?_ (fun _ => ?_)
set_option maxHeartbeats 8000000 in
set_option maxRecDepth 100000 in
theorem screelaw8_sameTexts.calls (k : Nat) (A0 : Option Addr) (c0 : Nat) (l0 : List ByteArray) (A1 : Option Addr) (c1 : Nat) (l1 : List ByteArray) (r : Bool) (w : World) (hr0 : Kd.C Kd.string w A0 l0.length l0) (hc0 : l0.length ≤ c0) (hr1 : Kd.C Kd.string w A1 l1.length l1) (hc1 : l1.length ≤ c1) (h : screelaw8_sameTexts.f k l0 l1 = some r) :
    Calls Tryz.prog 10 #[.slice A0 l0.length c0, .slice A1 l1.length c1] w fun e w' => e = .returned (.bool r) ∧ Drawn0 w w' := by
  have HR0 := Aside0.mk hr0
  have HC0 := Aside0.mk hc0
  clear hr0 hc0
  have HR1 := Aside0.mk hr1
  have HC1 := Aside0.mk hc1
  clear hr1 hc1
  have H : (if (l0.length : Int) = (l1.length : Int) then (screelaw8_sameTexts.l0 k l0 l1 0) else (some false)) = some r := h
  clear h
  by_cases c3 : (l0.length : Int) = (l1.length : Int)
  · rw [if_pos c3] at H
    have c3b0 : ((l0.length : Int) == (l1.length : Int)) = true := beq_iff_eq.mpr c3
    have c3b1 : ((l0.length : Int) != (l1.length : Int)) = false := bne_eq_false_iff_eq.mpr c3
    have c3b2 : (l0.length == l1.length) = true := by first | simpa using c3 | (simp at c3 ⊢; omega)
    clear c3
    have H' := Aside0.mk H
    clear H
    go_enter Tryz.func10, Tryz.ntmps10
    go_wp2
    repeat (go_quiet (fail); try go_wp2)
    go_loopg [5] k (fun kq v5 w' => ∃ (x5_1 : Int), v5 = .int .i64 x5_1 ∧ Aside0 (screelaw8_sameTexts.l0 kq l0 l1 x5_1 = some r) ∧ Aside0 (kq ≤ k) ∧ Drawn0 w w')
    case atStart => exact ⟨(0), (by first | rfl | (simp; done) | (simp [*]; done)), H', ⟨Nat.le_refl _⟩, by repeat (first | exact Drawn0.refl _ | apply Drawn0.step)⟩
    case round =>
      clear H'
      try clear c1
      try clear p2
      try clear c3
      try clear c3b0
      try clear c3b1
      try clear c3b2
      obtain ⟨x5_1, rfl, HA, HK1, ⟨m1, rfl⟩⟩ := hrel
      cases gk with
      | zero => exact absurd HA.out (by simp [screelaw8_sameTexts.l0])
      | succ k1 =>
        have H := HA.out
        clear HA
        simp only [screelaw8_sameTexts.l0] at H
        by_cases c4 : x5_1 < (l0.length : Int)
        · rw [if_pos c4] at H
          have c4b0 : decide (x5_1 < (l0.length : Int)) = true := decide_eq_true c4
          clear c4
          by_cases c5 : 0 ≤ x5_1
          · rw [if_pos c5] at H
            have c5b0 : decide (0 ≤ x5_1) = true := decide_eq_true c5
            clear c5
            by_cases c6 : x5_1 < (l1.length : Int)
            · rw [if_pos c6] at H
              have c6b0 : decide (x5_1 < (l1.length : Int)) = true := decide_eq_true c6
              clear c6
              by_cases c7 : (rdOf ByteArray.empty l0 x5_1).toList = (rdOf ByteArray.empty l1 x5_1).toList
              · rw [if_pos c7] at H
                have c7b0 : ((rdOf ByteArray.empty l0 x5_1).toList == (rdOf ByteArray.empty l1 x5_1).toList) = true := beq_iff_eq.mpr c7
                have c7b1 : ((rdOf ByteArray.empty l0 x5_1).toList != (rdOf ByteArray.empty l1 x5_1).toList) = false := bne_eq_false_iff_eq.mpr c7
                clear c7
                have H' := Aside0.mk H
                clear H
                have p326 : 0 ≤ (x5_1 : Int) := of_decide_eq_true (by first | (with_reducible assumption) | assumption)
                have q326 : x5_1 < (l0.length : Int) := of_decide_eq_true (by first | (with_reducible assumption) | assumption)
                obtain ⟨ad326, e326, hx326_0⟩ := Kd.at_string HR0.out x5_1 p326 q326
                cases e326
                replace p326 := eq_true p326
                replace q326 := eq_true q326
                have p327 : 0 ≤ (x5_1 : Int) := of_decide_eq_true (by first | (with_reducible assumption) | assumption)
                have q327 : x5_1 < (l1.length : Int) := of_decide_eq_true (by first | (with_reducible assumption) | assumption)
                obtain ⟨ad327, e327, hx327_0⟩ := Kd.at_string HR1.out x5_1 p327 q327
                cases e327
                replace p327 := eq_true p327
                replace q327 := eq_true q327
                go_wp2
                repeat (go_quiet (fail); try go_wp2)
                go_roundg k1
                case measure => have := HK1.out; omega
                case rel => exact ⟨(wrap64 (x5_1 + 1)), (by first | rfl | (simp; done) | (simp [*]; done)), H', ⟨by have := HK1.out; omega⟩, by repeat (first | exact Drawn0.refl _ | apply Drawn0.step)⟩
              · rw [if_neg c7] at H
                have c7b0 : ((rdOf ByteArray.empty l0 x5_1).toList == (rdOf ByteArray.empty l1 x5_1).toList) = false := beq_eq_false_iff_ne.mpr c7
                have c7b1 : ((rdOf ByteArray.empty l0 x5_1).toList != (rdOf ByteArray.empty l1 x5_1).toList) = true := bne_iff_ne.mpr c7
                obtain rfl := Option.some.inj H
                have p326 : 0 ≤ (x5_1 : Int) := of_decide_eq_true (by first | (with_reducible assumption) | assumption)
                have q326 : x5_1 < (l0.length : Int) := of_decide_eq_true (by first | (with_reducible assumption) | assumption)
                obtain ⟨ad326, e326, hx326_0⟩ := Kd.at_string HR0.out x5_1 p326 q326
                cases e326
                replace p326 := eq_true p326
                replace q326 := eq_true q326
                have p327 : 0 ≤ (x5_1 : Int) := of_decide_eq_true (by first | (with_reducible assumption) | assumption)
                have q327 : x5_1 < (l1.length : Int) := of_decide_eq_true (by first | (with_reducible assumption) | assumption)
                obtain ⟨ad327, e327, hx327_0⟩ := Kd.at_string HR1.out x5_1 p327 q327
                cases e327
                replace p327 := eq_true p327
                replace q327 := eq_true q327
                go_wp2
                repeat (go_quiet (fail); try go_wp2)
                go_ret
                exact ⟨by first | rfl | (simp; done) | (simp [*]; done), by repeat (first | exact Drawn0.refl _ | apply Drawn0.step)⟩
            · rw [if_neg c6] at H
              exact absurd H (by simp)
          · rw [if_neg c5] at H
            exact absurd H (by simp)
        · rw [if_neg c4] at H
          have c4b0 : decide (x5_1 < (l0.length : Int)) = false := decide_eq_false c4
          clear c4
          obtain rfl := Option.some.inj H
          go_wp2
          repeat (go_quiet (fail); try go_wp2)
          go_ret
          exact ⟨by first | rfl | (simp; done) | (simp [*]; done), by repeat (first | exact Drawn0.refl _ | apply Drawn0.step)⟩
  · rw [if_neg c3] at H
    have c3b0 : ((l0.length : Int) == (l1.length : Int)) = false := beq_eq_false_iff_ne.mpr c3
    have c3b1 : ((l0.length : Int) != (l1.length : Int)) = true := bne_iff_ne.mpr c3
    have c3b2 : (l0.length == l1.length) = false := by first | simpa using c3 | (simp at c3 ⊢; omega)
    obtain rfl := Option.some.inj H
    go_enter Tryz.func10, Tryz.ntmps10
    go_wp2
    repeat (go_quiet (fail); try go_wp2)
    go_ret
    exact ⟨by first | rfl | (simp; done) | (simp [*]; done), by repeat (first | exact Drawn0.refl _ | apply Drawn0.step)⟩
end Go.Proofs.YtlcohooognjmaaaGreatDoor.QBl
namespace Go.Proofs.YtlcohooognjmaaaGreatDoor.BlW
open Go.RowKit Go.Proofs.YtlcohooognjmaaaGreatDoorW.PrintWords Go.Proofs.YtlcohooognjmaaaGreatDoor.Own Go.Proofs.YtlcohooognjmaaaGreatDoor.G Go.Proofs.YtlcohooognjmaaaGreatDoor.Bl Go.Proofs.YtlcohooognjmaaaGreatDoor.QBl
set_option linter.unusedVariables false
/-- A list that is read at A, n long, with room for c. -/
def Rd {α : Type} (d : Kd α) (w : World) (A : Option Addr) (n c : Nat) (l : List α) : Prop := l.length = n ∧ n ≤ c ∧ Kd.C d w A n l
theorem Rd.step {α : Type} {d : Kd α} {w w' : World} {A : Option Addr} {n c : Nat} {l : List α} (h : Rd d w A n c l) (hb : Below w.heap.size w w') : Rd d w' A n c l := ⟨h.1, h.2.1, Kd.C_below h.2.2 hb⟩
theorem Rd.nil {α : Type} (d : Kd α) (w : World) : Rd d w none 0 0 [] := ⟨rfl, Nat.le_refl _, Kd.C_nil d w⟩
theorem Rd.of_R {α : Type} {d : Kd α} {e : Nat} {w : World} {base : Nat} {ok : Nat → Prop} {v : Value} {l : List α} (h : Kd.R d e w base ok v l) : ∃ A n c, v = .slice A n c ∧ Rd d w A n c l ∧ Kd.R d e w base ok (.slice A n c) l := by
  obtain ⟨A, c, rfl, h1, h2⟩ := Kd.R_reads h
  exact ⟨A, l.length, c, rfl, ⟨rfl, h1, h2⟩, h⟩
theorem Rd.of_own {α : Type} {d : Kd α} {e : Nat} {w : World} {base : Nat} {ok : Nat → Prop} {A : Option Addr} {n c : Nat} {l : List α} (h : Kd.R d e w base ok (.slice A n c) l) : Rd d w A n c l := by
  obtain ⟨A', n', c', e1, h1, -⟩ := Rd.of_R h
  injection e1 with e2 e3 e4
  subst e2 e3 e4
  exact h1
theorem Rd.take {α : Type} {d : Kd α} {w : World} {A : Option Addr} {n c : Nat} {l : List α} (h : Rd d w A n c l) (m : Nat) (hm : m ≤ n) : Rd d w A m c (l.take m) := by
  obtain ⟨rfl, a2, a3⟩ := h
  have h3 := Kd.C_take a3 hm
  have hl : (l.take m).length = m := by rw [List.length_take]; omega
  rw [hl] at h3
  exact ⟨hl, by omega, h3⟩
/-- What a call that makes a list answers: the list, told apart; older memory stays. -/
def Made {α : Type} (d : Kd α) (t : Nat) (w : World) (spec : List α) (e : Ending) (w' : World) : Prop := ∃ A n c l, e = .returned (.slice A n c) ∧ l = spec ∧ Rd d w' A n c l ∧ Kd.R d t w' w.heap.size (fun _ => True) (.slice A n c) l ∧ Below w.heap.size w w'
theorem Made.of {α : Type} {d : Kd α} {t : Nat} {w : World} {spec : List α} {e : Ending} {w' : World} (h : ∃ v0_ : Value, e = .returned (v0_) ∧ Kd.R d t w' w.heap.size (fun _ => True) v0_ spec ∧ Below w.heap.size w w') : Made d t w spec e w' := by
  obtain ⟨v, rfl, h1, h2⟩ := h
  obtain ⟨A, n, c, rfl, h3, h4⟩ := Rd.of_R h1
  exact ⟨A, n, c, spec, rfl, rfl, h3, h4, h2⟩
def Says (w : World) (b : Bool) (e : Ending) (w' : World) : Prop := e = .returned (.bool b) ∧ Below w.heap.size w w'
theorem Says.of {w : World} {b : Bool} {e : Ending} {w' : World} (h : e = .returned (.bool b) ∧ Drawn0 w w') : Says w b e w' := ⟨h.1, h.2.below⟩
def Tab (w : World) : Prop := GT w
theorem Tab.step {w w' : World} (h : Tab w) (hb : Below w.heap.size w w') : Tab w' := GT.below h hb
/-- Older memory stays, from the law's begin on. -/
def Bel (w W : World) : Prop := Below w.heap.size w W
theorem Bel.step {w W W' : World} (h : Bel w W) (hb : Below W.heap.size W W') : Bel w W' := below_step h hb
theorem cSame {w : World} {A1 A2 : Option Addr} {n1 c1 n2 c2 : Nat} {l1 l2 : List Int} (h1 : Rd (Kd.int .u8) w A1 n1 c1 l1) (h2 : Rd (Kd.int .u8) w A2 n2 c2 l2) (he : l1 = l2) : Calls Tryz.prog 7 #[.slice A1 n1 c1, .slice A2 n2 c2] w (Says w true) := by
  obtain ⟨rfl, a2, a3⟩ := h1
  obtain ⟨rfl, b2, b3⟩ := h2
  exact (screelaw8_same.calls A1 c1 l1 A2 c2 l2 true w a3 a2 b3 b2 (by unfold screelaw8_same.f; rw [if_pos a3.2.1]; simp [he])).mono fun _ _ h => Says.of h
theorem cMake {w : World} {A : Option Addr} {n c : Nat} {l : List ByteArray} {b : Int} (h : Rd Kd.string w A n c l) (hl : n ≤ 8796093022208) (hs : ∀ s ∈ l, s.size ≤ 9223372036854775807) (hb1 : -9223372036854775808 ≤ b) (hb2 : b ≤ 9223372036854775807) (hT : Tab w) : Calls Tryz.prog 6 #[.slice A n c, .int .i64 b] w (Made (Kd.int .u8) 5 w (makeL l b)) := by
  obtain ⟨rfl, a2, a3⟩ := h
  exact (bloom_Make.calls A c l b _ w a3 a2 (by unfold bloom_Make.f; rw [if_pos ⟨sizesB_iff.2 hs, hl, hb1, hb2⟩]) hT).mono fun _ _ h => Made.of h
theorem infoS : (Tryz.prog.info? 9).map (fun i => (i.zero, i.size, i.bytes)) = some (some (.string ByteArray.empty), 1, 16) := by kernel_rfl
set_option maxHeartbeats 400000 in
theorem cSome {w : World} {A : Option Addr} {n c : Nat} {l : List ByteArray} (h : Rd Kd.string w A n c l) (hn : n ≤ 9223372036854775807) : Calls Tryz.prog 5 #[.slice A n c] w fun e w' => ∃ m, e = .returned (.slice A m c) ∧ m ≤ 4000 ∧ m ≤ n ∧ Rd Kd.string w' A m c (l.take m) ∧ w' = w := by
  have hc := h.2.1
  obtain ⟨i0, hi0, _, hsz, _⟩ := info_parts infoS
  by_cases hlt : n ≤ 4000
  · have hr := h.take n (Nat.le_refl _)
    have hcut := cut_to (P := Tryz.prog) 22 9 .i64 Tryz.underlying22 hi0 A n c (n : Int) (by omega) (by omega) hc
    rw [Int.toNat_natCast] at hcut
    have e1 : (if (4000 : Int) < (n : Int) then (4000 : Int) else (n : Int)) = (n : Int) := if_neg (by omega)
    have HR := Aside0.mk hr
    clear hr h hi0 hsz
    go_enter Tryz.func5, Tryz.ntmps5
    go_wp2
    go_ret
    exact ⟨n, rfl, hlt, Nat.le_refl _, HR.out, rfl⟩
  · have hr := h.take 4000 (by omega)
    have hcut := cut_to (P := Tryz.prog) 22 9 .i64 Tryz.underlying22 hi0 A n c (4000 : Int) (by omega) (by omega) hc
    have e1 : (if (4000 : Int) < (n : Int) then (4000 : Int) else (n : Int)) = (4000 : Int) := if_pos (by omega)
    have HR := Aside0.mk hr
    clear hr h hi0 hsz
    go_enter Tryz.func5, Tryz.ntmps5
    go_wp2
    go_ret
    exact ⟨4000, rfl, Nat.le_refl _, by omega, HR.out, rfl⟩
set_option maxHeartbeats 400000 in
theorem known_f : screelaw8_known.f = some true := by
  have h1 : bloom_Make.f [(⟨#[97]⟩ : ByteArray)] 10 = some [1, 0, 1, 1, 0, 1, 1, 1, 6] := by decide +kernel
  have h2 : bloom_May.f [0, 0, 0, 0, 0, 0, 0, 0, 1] (⟨#[97]⟩ : ByteArray) = some false := by decide +kernel
  have h3 : bloom_May.f [] (⟨#[97]⟩ : ByteArray) = some true := by decide +kernel
  unfold screelaw8_known.f
  rw [h1]
  simp only [Option.bind_some]
  rw [h2, h3]
  decide +kernel
theorem cKnown {w : World} (hT : Tab w) : Calls Tryz.prog 4 #[] w (Says w true) := (screelaw8_known.calls true w known_f hT).mono fun _ _ h => h
end Go.Proofs.YtlcohooognjmaaaGreatDoor.BlW
namespace Go.Proofs.YtlcohooognjmaaaGreatDoor.Wk
open Go.RowKit Go.Proofs.YtlcohooognjmaaaGreatDoorW.PrintWords Go.Proofs.YtlcohooognjmaaaGreatDoor.Own
set_option linter.unusedVariables false
/-- A list that is read at A, n long, with room for c. -/
def Rd {α : Type} (d : Kd α) (w : World) (A : Option Addr) (n c : Nat) (l : List α) : Prop := l.length = n ∧ n ≤ c ∧ Kd.C d w A n l
section
variable {α : Type} {d : Kd α} {w w' : World} {A : Option Addr} {n c : Nat} {l : List α}
theorem Rd.step (h : Rd d w A n c l) (hb : Below w.heap.size w w') : Rd d w' A n c l := ⟨h.1, h.2.1, Kd.C_below h.2.2 hb⟩
theorem Rd.nil (d : Kd α) (w : World) : Rd d w none 0 0 [] := ⟨rfl, Nat.le_refl _, Kd.C_nil d w⟩
theorem Rd.of_R {e base : Nat} {ok : Nat → Prop} {v : Value} (h : Kd.R d e w base ok v l) : ∃ A n c, v = .slice A n c ∧ Rd d w A n c l ∧ Kd.R d e w base ok (.slice A n c) l := by
  obtain ⟨A, c, rfl, h1, h2⟩ := Kd.R_reads h
  exact ⟨A, l.length, c, rfl, ⟨rfl, h1, h2⟩, h⟩
theorem Rd.of_own {e base : Nat} {ok : Nat → Prop} (h : Kd.R d e w base ok (.slice A n c) l) : Rd d w A n c l := by
  obtain ⟨A', n', c', e1, h1, -⟩ := Rd.of_R h
  injection e1 with e2 e3 e4
  subst e2 e3 e4
  exact h1
theorem Rd.take (h : Rd d w A n c l) (m : Nat) (hm : m ≤ n) : Rd d w A m c (l.take m) := by
  obtain ⟨rfl, a2, a3⟩ := h
  have h3 := Kd.C_take a3 hm
  have hl : (l.take m).length = m := by rw [List.length_take]; omega
  rw [hl] at h3
  exact ⟨hl, by omega, h3⟩
/-- 'x[:m]'. -/
theorem Rd.to {P : Program} {t e : TypeId} {z : Value} {sz b : Nat} (ht : P.underlying t = some (.slice e)) (hi : (P.info? e).map (fun i => (i.zero, i.size, i.bytes)) = some (some z, sz, b)) (kh : IntKind) (A : Option Addr) (n c m : Nat) (hm : m ≤ n) (hc : n ≤ c) :
    ∀ W : World, (Instr.slice t (.slice A n c) none (some (.int kh (m : Int))) none).run P W = .ok (.slice A m c) W := by
  obtain ⟨i0, hi0, _, _, _⟩ := info_parts hi
  have h := cut_to (P := P) t e kh ht hi0 A n c (m : Int) (by omega) (by omega) hc
  rwa [Int.toNat_natCast] at h
/-- 'x[m:]'. -/
theorem Rd.from {P : Program} {t e : TypeId} {z : Value} {b : Nat} (d : Kd α) (ht : P.underlying t = some (.slice e)) (hi : (P.info? e).map (fun i => (i.zero, i.size, i.bytes)) = some (some z, d.sz, b)) (kl : IntKind) (A : Option Addr) (n c m : Nat) (hm : m ≤ n) (hc : n ≤ c) :
    ∃ A', (∀ W : World, (Instr.slice t (.slice A n c) (some (.int kl (m : Int))) none none).run P W = .ok (.slice A' (n - m) (c - m)) W) ∧ ∀ (w : World) (l : List α), Rd d w A n c l → Rd d w A' (n - m) (c - m) (l.drop m) := by
  obtain ⟨i0, hi0, _, hsz, _⟩ := info_parts hi
  have h := cut_from (P := P) t e kl ht hi0 d.sz hsz A n c (m : Int) (by omega) (by omega)
  rw [Int.toNat_natCast] at h
  refine ⟨_, h, fun w l hr => ?_⟩
  obtain ⟨rfl, a2, a3⟩ := hr
  have h3 := Kd.C_drop a3 hm a2
  rw [List.length_drop] at h3
  exact ⟨List.length_drop, by omega, h3⟩
end
/-- What a call that makes a list answers: the list, told apart; older memory stays. -/
def Made {α : Type} (d : Kd α) (t : Nat) (w : World) (spec : List α) (e : Ending) (w' : World) : Prop := ∃ A n c l, e = .returned (.slice A n c) ∧ l = spec ∧ Rd d w' A n c l ∧ Kd.R d t w' w.heap.size (fun _ => True) (.slice A n c) l ∧ Below w.heap.size w w'
theorem Made.of {α : Type} {d : Kd α} {t : Nat} {w : World} {spec : List α} {e : Ending} {w' : World} (h : ∃ v0_ : Value, e = .returned (v0_) ∧ Kd.R d t w' w.heap.size (fun _ => True) v0_ spec ∧ Below w.heap.size w w') : Made d t w spec e w' := by
  obtain ⟨v, rfl, h1, h2⟩ := h
  obtain ⟨A, n, c, rfl, h3, h4⟩ := Rd.of_R h1
  exact ⟨A, n, c, spec, rfl, rfl, h3, h4, h2⟩
def Says (w : World) (b : Bool) (e : Ending) (w' : World) : Prop := e = .returned (.bool b) ∧ Below w.heap.size w w'
theorem Says.of {w : World} {b : Bool} {e : Ending} {w' : World} (h : e = .returned (.bool b) ∧ Drawn0 w w') : Says w b e w' := ⟨h.1, h.2.below⟩
def Ow {α : Type} (d : Kd α) (t base : Nat) (w : World) (A : Option Addr) (n c : Nat) (l : List α) : Prop := l.length = n ∧ Kd.R d t w base (fun _ => True) (.slice A n c) l
theorem Ow.step {α : Type} {d : Kd α} {t base : Nat} {w w' : World} {A : Option Addr} {n c : Nat} {l : List α} (h : Ow d t base w A n c l) (hb : Below w.heap.size w w') : Ow d t base w' A n c l := ⟨h.1, Kd.R_below h.2 hb⟩
theorem Ow.rd {α : Type} {d : Kd α} {t base : Nat} {w : World} {A : Option Addr} {n c : Nat} {l : List α} (h : Ow d t base w A n c l) : Rd d w A n c l := Rd.of_own h.2
def Tab (w : World) : Prop := GT w
theorem Tab.step {w w' : World} (h : Tab w) (hb : Below w.heap.size w w') : Tab w' := GT.below h hb
/-- Older memory stays, from the law's begin on. -/
def Bel (w W : World) : Prop := Below w.heap.size w W
theorem Bel.step {w W W' : World} (h : Bel w W) (hb : Below W.heap.size W W') : Bel w W' := below_step h hb
end Go.Proofs.YtlcohooognjmaaaGreatDoor.Wk
namespace Go.Proofs.YtlcohooognjmaaaGreatDoor.Kb
open Go.RowKit Go.Proofs.YtlcohooognjmaaaGreatDoorW.PrintWords Go.Proofs.YtlcohooognjmaaaGreatDoor.Own Go.Proofs.YtlcohooognjmaaaGreatDoor.Wk
set_option linter.unusedVariables false
/-- A list as a value tells it. -/
structure Sl where
  A : Option Addr
  n : Nat
  c : Nat
def Sl.v (s : Sl) : Value := .slice s.A s.n s.c
abbrev kS : Kd Sl := Kd.scalar Sl.v (fun _ => rfl)
abbrev kI : Kd Int := Kd.int .i64
abbrev kB : Kd Int := Kd.int .u8
/-- Whose a block is, by its mark. -/
def Tg (τ : Nat → Nat) (t : Nat) (k : Nat) : Prop := τ k = t
def upd {α : Type} (f : Nat → α) (i : Nat) (u : α) (j : Nat) : α := if j = i then u else f j
theorem upd_same {α : Type} (f : Nat → α) (i : Nat) (u : α) : upd f i u i = u := if_pos rfl
theorem upd_ne {α : Type} (f : Nat → α) {i j : Nat} (u : α) (h : j ≠ i) : upd f i u j = f j := if_neg h
/-- The book's block, by its fields. -/
def BkC (W : World) (g : Nat) (f : Nat → Value) : Prop := ∃ cs : Array Value, W.heap[g]? = some (.cells cs 49 (0, 0)) ∧ cs.size = 175 ∧ ∀ i, i < 175 → cs[i]? = some (f i)
section
variable {W W' : World} {g : Nat} {f : Nat → Value}
theorem BkC.cell (h : BkC W g f) (i : Nat) (hi : i < 175) : W.cell? ⟨g, i, none⟩ = some (f i) := by
  obtain ⟨cs, h1, h2, h3⟩ := h
  rw [blk_cell h1]
  exact h3 i hi
theorem BkC.fr (h : BkC W g f) (i : Nat) : W.frozen? ⟨g, i, none⟩ = false := by
  obtain ⟨cs, h1, h2, h3⟩ := h
  exact blk_frozen h1 i
theorem BkC.set (h : BkC W g f) (i : Nat) (u : Value) : BkC (W.setCell ⟨g, i, none⟩ u) g (upd f i u) := by
  obtain ⟨cs, h1, h2, h3⟩ := h
  refine ⟨_, blk_set h1 i u, by simpa using h2, fun j hj => ?_⟩
  rw [Array.getElem?_setIfInBounds]
  unfold upd
  by_cases e : i = j
  · subst e
    rw [if_pos rfl, if_pos (by omega), if_pos rfl]
  · rw [if_neg e, if_neg (fun h => e h.symm)]
    exact h3 j hj
theorem BkC.lt (h : BkC W g f) : g < W.heap.size := by
  obtain ⟨cs, h1, h2, h3⟩ := h
  exact blk_lt h1
theorem BkC.keep (h : BkC W g f) (he : W'.heap[g]? = W.heap[g]?) : BkC W' g f := by
  obtain ⟨cs, h1, h2, h3⟩ := h
  exact ⟨cs, he.trans h1, h2, h3⟩
end
/-- From W to W': of elder blocks those alone have turned whose mark is in T; marks stand. -/
def Stp (T : Nat → Prop) (W W' : World) (τ τ' : Nat → Nat) : Prop := W.heap.size ≤ W'.heap.size ∧ (∀ k, k < W.heap.size → ¬ T (τ k) → W'.heap[k]? = W.heap[k]?) ∧ ∀ k, k < W.heap.size → τ' k = τ k
section
variable {T T' : Nat → Prop} {W W' W2 : World} {τ τ' τ2 : Nat → Nat} {α : Type} {d : Kd α} {e e' base t : Nat} {v : Value} {l : List α}
theorem Stp.refl (T : Nat → Prop) (W : World) (τ : Nat → Nat) : Stp T W W τ τ := ⟨Nat.le_refl _, fun _ _ _ => rfl, fun _ _ => rfl⟩
theorem Stp.trans (h : Stp T W W' τ τ') (h2 : Stp T' W' W2 τ' τ2) : Stp (fun t => T t ∨ T' t) W W2 τ τ2 := by
  refine ⟨Nat.le_trans h.1 h2.1, fun k hk ht => ?_, fun k hk => ?_⟩
  · have h3 := h.2.2 k hk
    have h0 := h.1
    exact (h2.2.1 k (by omega) (fun e => ht (.inr (h3 ▸ e)))).trans (h.2.1 k hk (fun e => ht (.inl e)))
  · have h0 := h.1
    exact (h2.2.2 k (by omega)).trans (h.2.2 k hk)
theorem Stp.mono (h : Stp T W W' τ τ') (hT : ∀ t, T t → T' t) : Stp T' W W' τ τ' := ⟨h.1, fun k hk ht => h.2.1 k hk (fun e => ht (hT _ e)), h.2.2⟩
theorem Stp.R (hs : Stp T W W' τ τ') (ht : ¬ T t) (h : Kd.R d e W base (Tg τ t) v l) : Kd.R d e W' base (Tg τ' t) v l := by
  have h1 := Kd.R_bound h
  refine Kd.R_mono (Kd.R_step h1 (fun k hk hlt => hs.2.1 k hlt ?_)) (fun k hk => ?_)
  · have h2 : τ k = t := hk.1
    rw [h2]; exact ht
  · show τ' k = t
    rw [hs.2.2 k hk.2.2.1]; exact hk.1
theorem Stp.V (hs : Stp T W W' τ τ') (ht : ¬ T t) (h : Kd.V d e W base (Tg τ t) v l) : Kd.V d e W' base (Tg τ' t) v l := by
  have h1 := Kd.V_bound h
  refine Kd.V_mono (Kd.V_step h1 (fun k hk hlt => hs.2.1 k hlt ?_)) (fun k hk => ?_)
  · have h2 : τ k = t := hk.1
    rw [h2]; exact ht
  · show τ' k = t
    rw [hs.2.2 k hk.2]; exact hk.1
theorem Stp.heap (hs : Stp T W W' τ τ') (he : W2.heap = W'.heap) : Stp T W W2 τ τ' := by
  refine ⟨by rw [he]; exact hs.1, fun k hk ht => ?_, hs.2.2⟩
  rw [he]; exact hs.2.1 k hk ht
end
/-- Blocks that are new get a mark. -/
def newT (τ : Nat → Nat) (W W1 : World) (t : Nat) (k : Nat) : Nat := if W.heap.size ≤ k ∧ k < W1.heap.size then t else τ k
theorem newT_old {τ : Nat → Nat} {W W1 : World} {t k : Nat} (h : k < W.heap.size) : newT τ W W1 t k = τ k := if_neg (by omega)
theorem newT_new {τ : Nat → Nat} {W W1 : World} {t k : Nat} (h : W.heap.size ≤ k) (h1 : k < W1.heap.size) : newT τ W W1 t k = t := if_pos ⟨h, h1⟩
def tailv (i : Nat) : Value := if (i - 13) % 9 = 8 then .int .i64 0 else .slice none 0 0
/-- What holds of the book's own memory: its block, its eight rows. -/
structure Inv (W : World) (τ : Nat → Nat) (M base g : Nat) (dp : Int) (f : Nat → Value) (S : Nat → List Sl) (I : Nat → List Int) : Prop where
  blk : BkC W g f
  bs : base ≤ g
  tg : τ g = 1
  new : ∀ k, W.heap.size ≤ k → τ k = 0
  mx : 20 ≤ M
  tm : ∀ k, τ k < M
  c0 : f 0 = .bool false
  c1 : f 1 = .bool false
  c2 : ∃ x, f 2 = .int .i64 x
  c3 : f 3 = .int .i64 dp
  c12 : ∃ x, f 12 = .int .i64 x
  ct : ∀ i, 13 ≤ i → i < 175 → f i = tailv i
  rs : ∀ i, 4 ≤ i → i ≤ 8 → Kd.R kS 25 W base (Tg τ i) (f i) (S i)
  ri : ∀ i, 9 ≤ i → i ≤ 11 → Kd.R kI 3 W base (Tg τ i) (f i) (I i)
section
variable {W W' W1 : World} {τ τ' : Nat → Nat} {M base g : Nat} {dp : Int} {f : Nat → Value} {S : Nat → List Sl} {I : Nat → List Int} {v v1 : Value}
theorem Inv.size (h : Inv W τ M base g dp f S I) : base ≤ W.heap.size := Nat.le_trans h.bs (Nat.le_of_lt h.blk.lt)
theorem Inv.heap (h : Inv W τ M base g dp f S I) (he : W'.heap = W.heap) : Inv W' τ M base g dp f S I := by
  have hb : ∀ k : Nat, W'.heap[k]? = W.heap[k]? := fun k => by rw [he]
  exact { h with
    blk := h.blk.keep (hb g)
    new := fun k hk => h.new k (by rw [← he]; exact hk)
    rs := fun i h1 h2 => Kd.R_step (h.rs i h1 h2) (fun k _ _ => hb k)
    ri := fun i h1 h2 => Kd.R_step (h.ri i h1 h2) (fun k _ _ => hb k) }
/-- New blocks that are nobody's. -/
theorem Inv.below (h : Inv W τ M base g dp f S I) (hb : Below W.heap.size W W') : Inv W' τ M base g dp f S I := by
  have hs := hb.size
  exact { h with
    blk := h.blk.keep (hb.block g h.blk.lt)
    new := fun k hk => h.new k (by omega)
    rs := fun i h1 h2 => Kd.R_below (h.rs i h1 h2) hb
    ri := fun i h1 h2 => Kd.R_below (h.ri i h1 h2) hb }
/-- A step that leaves the book's own memory. -/
theorem Inv.stp {T : Nat → Prop} (h : Inv W τ M base g dp f S I) (hs : Stp T W W' τ τ') (hT : ∀ t, T t → t = 0 ∨ t = 2 ∨ 12 ≤ t) (hn : ∀ k, W'.heap.size ≤ k → τ' k = 0) (hm : ∀ k, τ' k < M) : Inv W' τ' M base g dp f S I := by
  have hl := h.blk.lt
  exact { h with
    blk := h.blk.keep (hs.2.1 g hl (fun e => by have := hT _ e; rw [h.tg] at this; omega))
    tg := (hs.2.2 g hl).trans h.tg
    new := hn
    tm := hm
    rs := fun i h1 h2 => hs.R (fun e => by have := hT _ e; omega) (h.rs i h1 h2)
    ri := fun i h1 h2 => hs.R (fun e => by have := hT _ e; omega) (h.ri i h1 h2) }
/-- A field of the book is written (its value told anew). -/
theorem stp_set (h : Inv W τ M base g dp f S I) (i : Nat) (u : Value) : Stp (fun t => t = 1) W (W.setCell ⟨g, i, none⟩ u) τ τ := by
  refine ⟨by simp [World.setCell], fun k hk ht => Below.heap_setCell W ⟨g, i, none⟩ u k (fun e => ht ?_), fun _ _ => rfl⟩
  have e' : k = g := e
  rw [e']; exact h.tg
theorem Inv.setx (h : Inv W τ M base g dp f S I) (i : Nat) (u : Value) (S' : Nat → List Sl) (I' : Nat → List Int) (dp' : Int)
    (c0 : upd f i u 0 = .bool false) (c1 : upd f i u 1 = .bool false) (c2 : ∃ x, upd f i u 2 = .int .i64 x) (c3 : upd f i u 3 = .int .i64 dp') (c12 : ∃ x, upd f i u 12 = .int .i64 x) (ct : ∀ j, 13 ≤ j → j < 175 → upd f i u j = tailv j)
    (rs : ∀ j, 4 ≤ j → j ≤ 8 → Kd.R kS 25 W base (Tg τ j) (upd f i u j) (S' j)) (ri : ∀ j, 9 ≤ j → j ≤ 11 → Kd.R kI 3 W base (Tg τ j) (upd f i u j) (I' j)) :
    Inv (W.setCell ⟨g, i, none⟩ u) τ M base g dp' (upd f i u) S' I' := by
  have hs := stp_set h i u
  have hz : (W.setCell ⟨g, i, none⟩ u).heap.size = W.heap.size := by simp [World.setCell]
  exact { blk := h.blk.set i u, bs := h.bs, tg := h.tg, new := fun k hk => h.new k (by rw [hz] at hk; exact hk), mx := h.mx, tm := h.tm, c0 := c0, c1 := c1, c2 := c2, c3 := c3, c12 := c12, ct := ct
          rs := fun j h1 h2 => hs.R (by omega) (rs j h1 h2), ri := fun j h1 h2 => hs.R (by omega) (ri j h1 h2) }
theorem Inv.turn (h : Inv W τ M base g dp f S I) (x : Int) : Inv (W.setCell ⟨g, 2, none⟩ (.int .i64 x)) τ M base g dp (upd f 2 (.int .i64 x)) S I :=
  h.setx 2 _ S I dp h.c0 h.c1 ⟨x, rfl⟩ h.c3 h.c12 (fun j h1 h2 => by rw [upd_ne _ _ (by omega)]; exact h.ct j h1 h2) (fun j h1 h2 => by rw [upd_ne _ _ (by omega)]; exact h.rs j h1 h2) (fun j h1 h2 => by rw [upd_ne _ _ (by omega)]; exact h.ri j h1 h2)
theorem Inv.deep (h : Inv W τ M base g dp f S I) (x : Int) : Inv (W.setCell ⟨g, 3, none⟩ (.int .i64 x)) τ M base g x (upd f 3 (.int .i64 x)) S I :=
  h.setx 3 _ S I x h.c0 h.c1 h.c2 rfl h.c12 (fun j h1 h2 => by rw [upd_ne _ _ (by omega)]; exact h.ct j h1 h2) (fun j h1 h2 => by rw [upd_ne _ _ (by omega)]; exact h.rs j h1 h2) (fun j h1 h2 => by rw [upd_ne _ _ (by omega)]; exact h.ri j h1 h2)
theorem Inv.seen (h : Inv W τ M base g dp f S I) (x : Int) : Inv (W.setCell ⟨g, 12, none⟩ (.int .i64 x)) τ M base g dp (upd f 12 (.int .i64 x)) S I :=
  h.setx 12 _ S I dp h.c0 h.c1 h.c2 h.c3 ⟨x, rfl⟩ (fun j h1 h2 => by rw [upd_ne _ _ (by omega)]; exact h.ct j h1 h2) (fun j h1 h2 => by rw [upd_ne _ _ (by omega)]; exact h.rs j h1 h2) (fun j h1 h2 => by rw [upd_ne _ _ (by omega)]; exact h.ri j h1 h2)
/-- A row of lists is let go. -/
theorem Inv.nilS (h : Inv W τ M base g dp f S I) {i : Nat} (h4 : 4 ≤ i) (h8 : i ≤ 8) : Inv (W.setCell ⟨g, i, none⟩ (.slice none 0 0)) τ M base g dp (upd f i (.slice none 0 0)) (upd S i []) I :=
  h.setx i _ _ I dp (by rw [upd_ne _ _ (by omega)]; exact h.c0) (by rw [upd_ne _ _ (by omega)]; exact h.c1) (by rw [upd_ne _ _ (by omega)]; exact h.c2) (by rw [upd_ne _ _ (by omega)]; exact h.c3) (by rw [upd_ne _ _ (by omega)]; exact h.c12)
    (fun j h1 h2 => by rw [upd_ne _ _ (by omega)]; exact h.ct j h1 h2)
    (fun j h1 h2 => by
      by_cases e : j = i
      · subst e; rw [upd_same, upd_same]; exact Kd.R_nil _ _ _ _ _
      · rw [upd_ne _ _ e, upd_ne _ _ e]; exact h.rs j h1 h2)
    (fun j h1 h2 => by rw [upd_ne _ _ (by omega)]; exact h.ri j h1 h2)
theorem Inv.nilI (h : Inv W τ M base g dp f S I) {i : Nat} (h4 : 9 ≤ i) (h8 : i ≤ 11) : Inv (W.setCell ⟨g, i, none⟩ (.slice none 0 0)) τ M base g dp (upd f i (.slice none 0 0)) S (upd I i []) :=
  h.setx i _ S _ dp (by rw [upd_ne _ _ (by omega)]; exact h.c0) (by rw [upd_ne _ _ (by omega)]; exact h.c1) (by rw [upd_ne _ _ (by omega)]; exact h.c2) (by rw [upd_ne _ _ (by omega)]; exact h.c3) (by rw [upd_ne _ _ (by omega)]; exact h.c12)
    (fun j h1 h2 => by rw [upd_ne _ _ (by omega)]; exact h.ct j h1 h2)
    (fun j h1 h2 => by rw [upd_ne _ _ (by omega)]; exact h.rs j h1 h2)
    (fun j h1 h2 => by
      by_cases e : j = i
      · subst e; rw [upd_same, upd_same]; exact Kd.R_nil _ _ _ _ _
      · rw [upd_ne _ _ e, upd_ne _ _ e]; exact h.ri j h1 h2)
theorem stp_grown (h : Inv W τ M base g dp f S I) {i t : Nat} {row : Option Nat} (hrow : ∀ k, row = some k → τ k = i) (hg : W.grownBy W1 row) : Stp (fun t => t = i) W W1 τ (newT τ W W1 t) :=
  ⟨hg.size, fun k hk ht => hg.block k hk (fun e => ht (hrow k e.symm)), fun k hk => newT_old hk⟩
theorem newT_zero (h : Inv W τ M base g dp f S I) (t : Nat) (hs : W.heap.size ≤ W1.heap.size) : ∀ k, W1.heap.size ≤ k → newT τ W W1 t k = 0 := fun k hk => by
  unfold newT
  rw [if_neg (by omega)]
  exact h.new k (by omega)
theorem newT_lt (h : Inv W τ M base g dp f S I) {t : Nat} (ht : t < M) : ∀ k, newT τ W W1 t k < M := fun k => by
  unfold newT
  split
  · exact ht
  · exact h.tm k
theorem R_newT {α : Type} {d : Kd α} {e t : Nat} {l : List α} (h : Kd.R d e W1 base (fun k => Tg τ t k ∨ W.heap.size ≤ k) v l) (hnew : ∀ k, W.heap.size ≤ k → τ k = 0) : Kd.R d e W1 base (Tg (newT τ W W1 t) t) v l :=
  Kd.R_mono (Kd.R_bound h) (fun k hk => by
    show newT τ W W1 t k = t
    by_cases hlt : k < W.heap.size
    · rw [newT_old hlt]
      rcases hk.1 with h1 | h1
      · exact h1
      · omega
    · exact newT_new (by omega) hk.2.2.1)
/-- A row of lists grows, and is stored. -/
theorem Inv.pushS (h : Inv W τ M base g dp f S I) {i : Nat} (h4 : 4 ≤ i) (h8 : i ≤ 8) {L : List Sl} (ho : Kd.R kS 25 W1 base (fun k => Tg τ i k ∨ W.heap.size ≤ k) v1 L) (hg : W.grownBy W1 (f i).ownBlock) :
    Inv (W1.setCell ⟨g, i, none⟩ v1) (newT τ W W1 i) M base g dp (upd f i v1) (upd S i L) I ∧ Stp (fun t => t = 1 ∨ t = i) W (W1.setCell ⟨g, i, none⟩ v1) τ (newT τ W W1 i) := by
  have hR := h.rs i h4 h8
  have hst := stp_grown (t := i) h (i := i) (fun k hk => hR.1 k hk) hg
  have hmx := h.mx
  have hgl := h.blk.lt
  have htg := h.tg
  have hsz := hg.size
  have hb : BkC W1 g f := h.blk.keep (hst.2.1 g hgl (by omega))
  have hng : newT τ W W1 i g = 1 := (newT_old hgl).trans htg
  have hfar : ∀ j, j ≠ 1 → ∀ k, Tg (newT τ W W1 i) j k → k ≠ g := fun j hj k hk e => by
    subst e
    have hk' : newT τ W W1 i k = j := hk
    omega
  have hz : (W1.setCell ⟨g, i, none⟩ v1).heap.size = W1.heap.size := by simp [World.setCell]
  have hn := h.nilS h4 h8
  refine ⟨{ blk := hb.set i v1, bs := h.bs, tg := hng, new := fun k hk => newT_zero h i hsz k (by omega), mx := h.mx, tm := newT_lt h (by omega), c0 := by rw [upd_ne _ _ (by omega)]; exact h.c0, c1 := by rw [upd_ne _ _ (by omega)]; exact h.c1, c2 := by rw [upd_ne _ _ (by omega)]; exact h.c2, c3 := by rw [upd_ne _ _ (by omega)]; exact h.c3, c12 := by rw [upd_ne _ _ (by omega)]; exact h.c12
            ct := fun j h1 h2 => by rw [upd_ne _ _ (by omega)]; exact h.ct j h1 h2
            rs := fun j h1 h2 => Kd.R_far (p := ⟨g, i, none⟩) (by
              by_cases e : j = i
              · subst e; rw [upd_same, upd_same]; exact R_newT ho h.new
              · rw [upd_ne _ _ e, upd_ne _ _ e]; exact hst.R e (h.rs j h1 h2)) (hfar j (by omega)) _
            ri := fun j h1 h2 => Kd.R_far (p := ⟨g, i, none⟩) (by rw [upd_ne _ _ (by omega)]; exact hst.R (by omega) (h.ri j h1 h2)) (hfar j (by omega)) _ }, ?_⟩
  refine ⟨by omega, fun k hk ht => (Below.heap_setCell W1 ⟨g, i, none⟩ v1 k (fun e => ht (.inl ?_))).trans (hst.2.1 k hk (fun e => ht (.inr e))), fun k hk => newT_old hk⟩
  have e' : k = g := e
  rw [e']; exact htg
/-- A row of numbers grows, and is stored. -/
theorem Inv.pushI (h : Inv W τ M base g dp f S I) {i : Nat} (h4 : 9 ≤ i) (h8 : i ≤ 11) {L : List Int} (ho : Kd.R kI 3 W1 base (fun k => Tg τ i k ∨ W.heap.size ≤ k) v1 L) (hg : W.grownBy W1 (f i).ownBlock) :
    Inv (W1.setCell ⟨g, i, none⟩ v1) (newT τ W W1 i) M base g dp (upd f i v1) S (upd I i L) ∧ Stp (fun t => t = 1 ∨ t = i) W (W1.setCell ⟨g, i, none⟩ v1) τ (newT τ W W1 i) := by
  have hR := h.ri i h4 h8
  have hst := stp_grown (t := i) h (i := i) (fun k hk => hR.1 k hk) hg
  have hmx := h.mx
  have hgl := h.blk.lt
  have htg := h.tg
  have hsz := hg.size
  have hb : BkC W1 g f := h.blk.keep (hst.2.1 g hgl (by omega))
  have hng : newT τ W W1 i g = 1 := (newT_old hgl).trans htg
  have hfar : ∀ j, j ≠ 1 → ∀ k, Tg (newT τ W W1 i) j k → k ≠ g := fun j hj k hk e => by
    subst e
    have hk' : newT τ W W1 i k = j := hk
    omega
  have hz : (W1.setCell ⟨g, i, none⟩ v1).heap.size = W1.heap.size := by simp [World.setCell]
  refine ⟨{ blk := hb.set i v1, bs := h.bs, tg := hng, new := fun k hk => newT_zero h i hsz k (by omega), mx := h.mx, tm := newT_lt h (by omega), c0 := by rw [upd_ne _ _ (by omega)]; exact h.c0, c1 := by rw [upd_ne _ _ (by omega)]; exact h.c1, c2 := by rw [upd_ne _ _ (by omega)]; exact h.c2, c3 := by rw [upd_ne _ _ (by omega)]; exact h.c3, c12 := by rw [upd_ne _ _ (by omega)]; exact h.c12
            ct := fun j h1 h2 => by rw [upd_ne _ _ (by omega)]; exact h.ct j h1 h2
            rs := fun j h1 h2 => Kd.R_far (p := ⟨g, i, none⟩) (by rw [upd_ne _ _ (by omega)]; exact hst.R (by omega) (h.rs j h1 h2)) (hfar j (by omega)) _
            ri := fun j h1 h2 => Kd.R_far (p := ⟨g, i, none⟩) (by
              by_cases e : j = i
              · subst e; rw [upd_same, upd_same]; exact R_newT ho h.new
              · rw [upd_ne _ _ e, upd_ne _ _ e]; exact hst.R e (h.ri j h1 h2)) (hfar j (by omega)) _ }, ?_⟩
  refine ⟨by omega, fun k hk ht => (Below.heap_setCell W1 ⟨g, i, none⟩ v1 k (fun e => ht (.inl ?_))).trans (hst.2.1 k hk (fun e => ht (.inr e))), fun k hk => newT_old hk⟩
  have e' : k = g := e
  rw [e']; exact htg
end
end Go.Proofs.YtlcohooognjmaaaGreatDoor.Kb
namespace Go.Proofs.YtlcohooognjmaaaGreatDoor.Kb
open Go.RowKit Go.Proofs.YtlcohooognjmaaaGreatDoorW.PrintWords Go.Proofs.YtlcohooognjmaaaGreatDoor.Own Go.Proofs.YtlcohooognjmaaaGreatDoor.Wk
set_option linter.unusedVariables false
/-- A list that waits: its mark, itself, what it held. -/
structure It where
  id : Nat
  s : Sl
  nt : Sl
/-- A list that was written: its mark, itself, what it must hold. -/
structure Ou where
  tg : Nat
  s : Sl
  td : Sl
def LB : Nat := 1099511627776
def Hot (W : World) (τ : Nat → Nat) (M base : Nat) (id : Nat) (s : Sl) (l : List Int) : Prop := 20 ≤ id ∧ id < M ∧ l.length ≤ LB ∧ Kd.R kB 5 W base (Tg τ id) s.v l
def WOk (W : World) (τ : Nat → Nat) (M base : Nat) (x : It) : Prop := ∃ l, Hot W τ M base x.id x.s l ∧ Kd.V kB 0 W 0 (Tg τ 2) x.nt.v l
def OOk (W : World) (τ : Nat → Nat) (M : Nat) (o : Ou) : Prop := 20 ≤ o.tg ∧ o.tg < M ∧ ∃ l, Kd.V kB 0 W 0 (Tg τ o.tg) o.s.v l ∧ Kd.V kB 0 W 0 (Tg τ 2) o.td.v l
def FOk (W : World) (τ : Nat → Nat) (M base : Nat) (x : It) : Prop := ∃ l, Hot W τ M base x.id x.s l
/-- What holds of the lists: those that wait, those that were written, those that are to be laid on. -/
structure Con (W : World) (τ : Nat → Nat) (M base : Nat) (ws : List It) (os : List Ou) (fr : List It) : Prop where
  w : ∀ x ∈ ws, WOk W τ M base x
  o : ∀ x ∈ os, OOk W τ M x
  r : ∀ x ∈ fr, FOk W τ M base x
  ids : (ws ++ fr).Pairwise (fun x y => x.id ≠ y.id)
  ow : ∀ x ∈ os, ∀ y ∈ ws, x.tg ≠ y.id
  of : ∀ x ∈ os, ∀ y ∈ fr, x.tg = y.id → x.s = y.s
theorem rv {α : Type} {d : Kd α} {e base : Nat} {W : World} {ok : Nat → Prop} {v : Value} {l : List α} (h : Kd.R d e W base ok v l) : Kd.V d 0 W 0 ok v l := by
  obtain ⟨A, c, h1, h2, h3⟩ := Kd.R_V (base' := 0) h
  exact ⟨A, c, h1, h2, h3⟩
section
variable {W W' W1 : World} {τ τ' : Nat → Nat} {M M' base g : Nat} {ws : List It} {os : List Ou} {fr : List It} {T : Nat → Prop}
theorem Hot.step {id : Nat} {s : Sl} {l : List Int} (hs : Stp T W W' τ τ') (ht : ¬ T id) (h : Hot W τ M base id s l) : Hot W' τ' M base id s l := ⟨h.1, h.2.1, h.2.2.1, hs.R ht h.2.2.2⟩
theorem Con.step (hs : Stp T W W' τ τ') (hT : ∀ t, T t → t ≠ 2 ∧ t < 20) (h : Con W τ M base ws os fr) : Con W' τ' M base ws os fr where
  w := fun x hx => by
    obtain ⟨l, h1, h2⟩ := h.w x hx
    exact ⟨l, Hot.step hs (fun e => by have := (hT _ e).2; have := h1.1; omega) h1, hs.V (fun e => (hT _ e).1 rfl) h2⟩
  o := fun x hx => by
    obtain ⟨h1, h2, l, h3, h4⟩ := h.o x hx
    exact ⟨h1, h2, l, hs.V (fun e => by have := (hT _ e).2; omega) h3, hs.V (fun e => (hT _ e).1 rfl) h4⟩
  r := fun x hx => by
    obtain ⟨l, h1⟩ := h.r x hx
    exact ⟨l, Hot.step hs (fun e => by have := (hT _ e).2; have := h1.1; omega) h1⟩
  ids := h.ids
  ow := h.ow
  of := h.of
theorem Con.below (h : Con W τ M base ws os fr) (hb : Below W.heap.size W W') : Con W' τ M base ws os fr :=
  Con.step (T := fun _ => False) (τ := τ) ⟨hb.size, fun k hk _ => hb.block k hk, fun _ _ => rfl⟩ (fun _ e => e.elim) h
theorem Con.mono (h : Con W τ M base ws os fr) (hM : M ≤ M') : Con W τ M' base ws os fr where
  w := fun x hx => by
    obtain ⟨l, h1, h2⟩ := h.w x hx
    exact ⟨l, ⟨h1.1, Nat.lt_of_lt_of_le h1.2.1 hM, h1.2.2⟩, h2⟩
  o := fun x hx => by
    obtain ⟨h1, h2, h3⟩ := h.o x hx
    exact ⟨h1, Nat.lt_of_lt_of_le h2 hM, h3⟩
  r := fun x hx => by
    obtain ⟨l, h1⟩ := h.r x hx
    exact ⟨l, ⟨h1.1, Nat.lt_of_lt_of_le h1.2.1 hM, h1.2.2⟩⟩
  ids := h.ids
  ow := h.ow
  of := h.of
/-- One more list waits. -/
theorem Con.add (h : Con W τ M base ws os []) (hM : M < M') {s nt : Sl} {l : List Int} (h20 : 20 ≤ M) (hl : l.length ≤ LB) (hR : Kd.R kB 5 W base (Tg τ M) s.v l) (hV : Kd.V kB 0 W 0 (Tg τ 2) nt.v l) : Con W τ M' base (ws ++ [⟨M, s, nt⟩]) os [] := by
  have h2 := h.mono (Nat.le_of_lt hM)
  refine ⟨fun x hx => ?_, h2.o, h2.r, ?_, ?_, h2.of⟩
  · rcases List.mem_append.1 hx with hx | hx
    · exact h2.w x hx
    · obtain rfl := List.mem_singleton.1 hx
      exact ⟨l, ⟨h20, hM, hl, hR⟩, hV⟩
  · have hi := h.ids
    rw [List.append_nil] at hi ⊢
    refine List.pairwise_append.2 ⟨hi, List.pairwise_singleton _ _, fun x hx y hy => ?_⟩
    obtain rfl := List.mem_singleton.1 hy
    obtain ⟨_, h1, _⟩ := h.w x hx
    have := h1.2.1
    show x.id ≠ M
    omega
  · intro x hx y hy
    rcases List.mem_append.1 hy with hy | hy
    · exact h.ow x hx y hy
    · obtain rfl := List.mem_singleton.1 hy
      obtain ⟨_, h1, _⟩ := h.o x hx
      show x.tg ≠ M
      omega
/-- A list that waited (its number k) is written, and told. -/
theorem Con.mark {a b : List It} {x : It} (h : Con W τ M base (a ++ x :: b) os fr) {td : Sl} {l' : List Int} (hl : l'.length ≤ LB) (hs : Stp T W W' τ τ') (hT : ∀ t, T t → t = x.id ∨ (t ≠ 2 ∧ t < 20)) (hR : Kd.R kB 5 W' base (Tg τ' x.id) x.s.v l') (hV : Kd.V kB 0 W' 0 (Tg τ' 2) td.v l') : Con W' τ' M base (a ++ b) (os ++ [⟨x.id, x.s, td⟩]) (fr ++ [x]) := by
  obtain ⟨lx, hx, -⟩ := h.w x (by simp)
  have hids := h.ids
  have hne : ∀ y, y ∈ a ∨ y ∈ b ∨ y ∈ fr → y.id ≠ x.id := by
    rw [List.append_assoc] at hids
    have h1 := (List.pairwise_append.1 hids)
    intro y hy
    rcases hy with hy | hy | hy
    · exact h1.2.2 y hy x (by simp)
    · exact fun e => (List.pairwise_cons.1 h1.2.1).1 y (by simp [hy]) e.symm
    · exact fun e => (List.pairwise_cons.1 h1.2.1).1 y (by simp [hy]) e.symm
  have hTn : ∀ t, t ≠ x.id → 20 ≤ t → ¬ T t := fun t h1 h2 h3 => by
    rcases hT t h3 with h4 | h4 <;> omega
  have hx20 := hx.1
  have hT2 : ¬ T 2 := fun h3 => by rcases hT 2 h3 with h4 | h4 <;> omega
  refine ⟨fun y hy => ?_, fun y hy => ?_, fun y hy => ?_, ?_, ?_, ?_⟩
  · have hy' : y ∈ a ∨ y ∈ b := List.mem_append.1 hy
    obtain ⟨l, h1, h2⟩ := h.w y (by rcases hy' with e | e <;> simp [e])
    exact ⟨l, Hot.step hs (hTn _ (hne y (hy'.elim .inl (fun e => .inr (.inl e)))) h1.1) h1, hs.V hT2 h2⟩
  · rcases List.mem_append.1 hy with hy | hy
    · obtain ⟨h1, h2, l, h3, h4⟩ := h.o y hy
      exact ⟨h1, h2, l, hs.V (hTn _ (h.ow y hy x (by simp)) h1) h3, hs.V hT2 h4⟩
    · obtain rfl := List.mem_singleton.1 hy
      exact ⟨hx.1, hx.2.1, l', rv hR, hV⟩
  · rcases List.mem_append.1 hy with hy | hy
    · obtain ⟨l, h1⟩ := h.r y hy
      exact ⟨l, Hot.step hs (hTn _ (hne y (.inr (.inr hy))) h1.1) h1⟩
    · obtain rfl := List.mem_singleton.1 hy
      exact ⟨l', hx.1, hx.2.1, hl, hR⟩
  · have hp : ((a ++ b) ++ (fr ++ [x])).Perm ((a ++ x :: b) ++ fr) := by
      refine List.Perm.trans ?_ (List.Perm.append_right fr (List.perm_middle.symm))
      rw [← List.append_assoc]
      exact List.perm_append_singleton _ _
    exact (hp.pairwise_iff (fun h e => h e.symm)).2 hids
  · intro y hy z hz
    have hz' : z ∈ a ∨ z ∈ b := List.mem_append.1 hz
    rcases List.mem_append.1 hy with hy | hy
    · exact h.ow y hy z (by rcases hz' with e | e <;> simp [e])
    · obtain rfl := List.mem_singleton.1 hy
      exact fun e => hne z (hz'.elim .inl (fun e => .inr (.inl e))) e.symm
  · intro y hy z hz
    rcases List.mem_append.1 hy with hy | hy
    · rcases List.mem_append.1 hz with hz | hz
      · exact h.of y hy z hz
      · obtain rfl := List.mem_singleton.1 hz
        exact fun e => absurd e (h.ow y (by assumption) z (by simp))
    · obtain rfl := List.mem_singleton.1 hy
      rcases List.mem_append.1 hz with hz | hz
      · exact fun e => absurd e.symm (hne z (.inr (.inr hz)))
      · obtain rfl := List.mem_singleton.1 hz
        exact fun _ => rfl
/-- A list is laid on: x's is grown to gs. -/
theorem Con.grow {b : List It} {x : It} (h : Con W τ M base ws os (x :: b)) {gs td : Sl} {l' : List Int} (hs : Stp T W W' τ τ') (hT : ∀ t, T t → t = x.id ∨ (t ≠ 2 ∧ t < 20)) (hk : ∀ l, Kd.V kB 0 W 0 (Tg τ x.id) x.s.v l → Kd.V kB 0 W' 0 (Tg τ' x.id) x.s.v l)
    (hR : Kd.V kB 0 W' 0 (Tg τ' x.id) gs.v l') (hV : Kd.V kB 0 W' 0 (Tg τ' 2) td.v l') : Con W' τ' M base ws (os ++ [⟨x.id, gs, td⟩]) b := by
  obtain ⟨lx, hx⟩ := h.r x (by simp)
  have hids := h.ids
  have hne : ∀ y, y ∈ ws ∨ y ∈ b → y.id ≠ x.id := by
    have h1 := (List.pairwise_append.1 hids)
    intro y hy
    rcases hy with hy | hy
    · exact h1.2.2 y hy x (by simp)
    · exact fun e => (List.pairwise_cons.1 h1.2.1).1 y hy e.symm
  have hTn : ∀ t, t ≠ x.id → 20 ≤ t → ¬ T t := fun t h1 h2 h3 => by
    rcases hT t h3 with h4 | h4 <;> omega
  have hx20 := hx.1
  have hT2 : ¬ T 2 := fun h3 => by rcases hT 2 h3 with h4 | h4 <;> omega
  refine ⟨fun y hy => ?_, fun y hy => ?_, fun y hy => ?_, ?_, ?_, ?_⟩
  · obtain ⟨l, h1, h2⟩ := h.w y hy
    exact ⟨l, Hot.step hs (hTn _ (hne y (.inl hy)) h1.1) h1, hs.V hT2 h2⟩
  · rcases List.mem_append.1 hy with hy | hy
    · obtain ⟨h1, h2, l, h3, h4⟩ := h.o y hy
      refine ⟨h1, h2, l, ?_, hs.V hT2 h4⟩
      by_cases e : y.tg = x.id
      · have h5 := h.of y hy x (by simp) e
        rw [e, h5] at h3 ⊢
        exact hk l h3
      · exact hs.V (hTn _ e h1) h3
    · obtain rfl := List.mem_singleton.1 hy
      exact ⟨hx.1, hx.2.1, l', hR, hV⟩
  · obtain ⟨l, h1⟩ := h.r y (by simp [hy])
    exact ⟨l, Hot.step hs (hTn _ (hne y (.inr hy)) h1.1) h1⟩
  · exact hids.sublist (List.Sublist.append (List.Sublist.refl _) (List.sublist_cons_self _ _))
  · intro y hy z hz
    rcases List.mem_append.1 hy with hy | hy
    · exact h.ow y hy z hz
    · obtain rfl := List.mem_singleton.1 hy
      exact fun e => hne z (.inl hz) e.symm
  · intro y hy z hz
    rcases List.mem_append.1 hy with hy | hy
    · exact h.of y hy z (by simp [hz])
    · obtain rfl := List.mem_singleton.1 hy
      exact fun e => absurd e.symm (hne z (.inr hz))
end
end Go.Proofs.YtlcohooognjmaaaGreatDoor.Kb
namespace Go.Proofs.YtlcohooognjmaaaGreatDoor.Kb
open Go.RowKit Go.Proofs.YtlcohooognjmaaaGreatDoorW.PrintWords Go.Proofs.YtlcohooognjmaaaGreatDoor.Own Go.Proofs.YtlcohooognjmaaaGreatDoor.Wk
set_option linter.unusedVariables false
theorem int_at {k : IntKind} {w : World} {A : Option Addr} {n : Nat} {xs : List Int} (h : Kd.C (Kd.int k) w A n xs) (i : Nat) (h1 : i < n) : ∃ ad, A = some ad ∧ w.cell? (ad.add i) = some (.int k (xs.getD i 0)) := by
  obtain ⟨ad, c, h2, h3, h4, h5⟩ := Kd.C_get h 0 (i : Int) (by omega) (by omega)
  refine ⟨ad, h2, ?_⟩
  have h6 : c = [.int k (xs.getD i 0)] := by have h7 : c = [.int k (xs.getD ((i : Int).toNat) 0)] := h4; rw [Int.toNat_natCast] at h7; exact h7
  subst h6
  have := h5 0 _ rfl
  have hsz : (Kd.int k).sz = 1 := rfl
  rw [hsz] at this
  simpa using this
set_option maxHeartbeats 1000000 in
set_option maxRecDepth 100000 in
theorem sameBytes_calls {w : World} {A B : Option Addr} {n c c' : Nat} {l : List Int} (ha : Kd.C kB w A n l) (hb : Kd.C kB w B n l) :
    Calls Tryz.prog 38 #[.slice A n c, .slice B n c'] w fun e w' => e = .returned (.bool true) ∧ w' = w := by
  have hn : n ≤ 9223372036854775807 := ha.2.1
  have HA := Aside0.mk ha
  have HB := Aside0.mk hb
  clear ha hb
  go_enter Tryz.func38, Tryz.ntmps38
  go_wp2_with fail
  go_loopw [5] (fun s3 wr => ∃ k : Nat, s3 = .int .i64 (k : Int) ∧ k ≤ n ∧ wr = w) (fun s3 _ => n - (intOf s3).toNat)
  case atStart => exact ⟨0, rfl, Nat.zero_le _, rfl⟩
  case round =>
    obtain ⟨k, rfl, hk, rfl⟩ := hrel
    by_cases hlt : k < n
    · obtain ⟨ad, ea, hx⟩ := int_at HA.out k hlt
      obtain ⟨bd, eb, hy⟩ := int_at HB.out k hlt
      subst ea eb
      go_wp2_with fail
      go_roundw
      case rel => exact ⟨k + 1, by go_num, by omega, by first | trivial | rfl⟩
      case measure => simp [intOf]; omega
    · obtain rfl : k = n := by omega
      go_wp2_with fail
      go_ret
      exact ⟨rfl, rfl⟩
set_option maxHeartbeats 1000000 in
set_option maxRecDepth 100000 in
theorem due_calls {w : World} {g : Nat} {f : Nat → Value} (hB : BkC w g f) (h0 : f 0 = .bool false) {t : Int} (h2 : f 2 = .int .i64 t) (n : Int) :
    Calls Tryz.prog 14 #[.pointer (some ⟨g, 0, none⟩), .int .i64 n] w fun e w' => (∃ x, e = .returned (.int .i64 x)) ∧ w' = w := by
  have c0 := hB.cell 0 (by omega)
  have c2 := hB.cell 2 (by omega)
  rw [h0] at c0
  rw [h2] at c2
  clear hB h0 h2
  go_enter Tryz.func14, Tryz.ntmps14
  go_wp2_with fail
  all_goals (go_ret; exact ⟨⟨_, rfl⟩, rfl⟩)
end Go.Proofs.YtlcohooognjmaaaGreatDoor.Kb
