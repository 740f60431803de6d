import Derived.Test.YtnamanalacjhnaaDoorOwn
import Derived.OrdersHeld

import Derived.Laws.BitsAllLaws
namespace Go.Proofs.YtnamanalacjhnaaDoor.G
open Go.RowKit Go.Proofs.YtnamanalacjhnaaDoorW.PrintWords Go.Proofs.YtnamanalacjhnaaDoor.Own
set_option linter.unusedVariables false
def nibv (x : Int) : Int := nibs.getD x.toNat 0
def sum1 (x : Int) : Int := bits .xor .u32 (nibv (bits .and .u32 x 15)) (x / 16)
def sumc (x c : Int) : Int := sum1 (sum1 (bits .xor .u32 x c))
def sumf (l : List Int) : Int := l.foldl sumc 4294967295
def sumF (l : List Int) : Int := bits .xor .u32 4294967295 (sumf l)
def U32 (x : Int) : Prop := 0 ≤ x ∧ x < 4294967296
theorem u32_xor_range {x y : Int} (hx : U32 x) (hy : U32 y) : U32 (bits .xor .u32 x y) := by
  obtain ⟨a, rfl⟩ := Int.eq_ofNat_of_zero_le hx.1
  obtain ⟨b, rfl⟩ := Int.eq_ofNat_of_zero_le hy.1
  have ha : a < 2 ^ 32 := by have := hx.2; omega
  have hb : b < 2 ^ 32 := by have := hy.2; omega
  rw [u32_xor_nat a b (by omega) (by omega)]
  have := Nat.xor_lt_two_pow ha hb
  constructor <;> omega
theorem and15 {x : Int} (hx : U32 x) : bits .and .u32 x 15 = x % 16 := by
  obtain ⟨a, rfl⟩ := Int.eq_ofNat_of_zero_le hx.1
  rw [show (15 : Int) = ((15 : Nat) : Int) from rfl, u32_and_nat a 15 (by have := hx.2; omega) (by omega)]
  have : a &&& 15 = a % 16 := Nat.and_two_pow_sub_one_eq_mod a 4
  omega
theorem nibv_range (x : Int) : U32 (nibv x) := by
  unfold nibv
  generalize x.toNat = n
  rcases Nat.lt_or_ge n 16 with h | h
  · have : n = 0 ∨ n = 1 ∨ n = 2 ∨ n = 3 ∨ n = 4 ∨ n = 5 ∨ n = 6 ∨ n = 7 ∨ n = 8 ∨ n = 9 ∨ n = 10 ∨ n = 11 ∨ n = 12 ∨ n = 13 ∨ n = 14 ∨ n = 15 := by omega
    rcases this with rfl | rfl | rfl | rfl | rfl | rfl | rfl | rfl | rfl | rfl | rfl | rfl | rfl | rfl | rfl | rfl <;> simp [nibs, U32]
  · rw [List.getD_eq_getElem?_getD, List.getElem?_eq_none (by simpa [nibs] using h)]
    simp [U32]
theorem sum1_range {x : Int} (hx : U32 x) : U32 (sum1 x) := u32_xor_range (nibv_range _) ⟨by have := hx.1; omega, by have := hx.2; omega⟩
theorem sumc_range {x c : Int} (hx : U32 x) (hc : 0 ≤ c ∧ c ≤ 255) : U32 (sumc x c) := sum1_range (sum1_range (u32_xor_range hx ⟨hc.1, by omega⟩))
theorem foldl_range (l : List Int) (x : Int) (hx : U32 x) (hl : Bytes l) : U32 (l.foldl sumc x) := by
  induction l generalizing x with
  | nil => exact hx
  | cons c l ih => exact ih _ (sumc_range hx (hl c (by simp))) (fun y hy => hl y (by simp [hy]))
theorem sumf_range {l : List Int} (hl : Bytes l) : U32 (sumf l) := foldl_range l _ (by simp [U32]) hl
theorem sumf_snoc (l : List Int) (k : Nat) (h : k < l.length) : sumf (l.take (k + 1)) = sumc (sumf (l.take k)) (rd l k) := by
  unfold sumf
  rw [List.take_succ_eq_append_getElem h, List.foldl_append]
  simp [rd, List.getD_eq_getElem?_getD, h]
theorem bytes_rd {l : List Int} (hl : Bytes l) (k : Nat) (h : k < l.length) : 0 ≤ rd l k ∧ rd l k ≤ 255 := by
  simp only [rd, Int.toNat_natCast, List.getD_eq_getElem?_getD, List.getElem?_eq_getElem h, Option.getD_some]
  exact hl _ (List.getElem_mem h)
theorem cellT {w : World} (h : GT w) {x : Int} (hx : U32 x) : 0 ≤ bits .and .u32 x 15 ∧ bits .and .u32 x 15 < 16 ∧ w.cell? ⟨0, (bits .and .u32 x 15).toNat, none⟩ = some (.int .u32 (nibv (bits .and .u32 x 15))) := by
  rw [and15 hx]
  exact ⟨by omega, by omega, h _ (by omega)⟩
set_option maxHeartbeats 400000 in
theorem sum_calls (A0 : Option Addr) (c0 : Nat) (l0 : List Int) (w : World) (hr0 : Kd.C (Kd.int .u8) w A0 l0.length l0) (hc0 : l0.length ≤ c0) (hl : Bytes l0) (hT : GT w) :
    Calls Tryd.prog 62 #[.slice A0 l0.length c0] w fun e w' => e = .returned (.int .u32 (sumF l0)) ∧ w' = w := by
  have hm := hr0.2.1
  have HR0 := Aside0.mk hr0
  have HT := Aside0.mk hT
  have HL := Aside0.mk hl
  clear hr0 hT hl
  go_enter Tryd.func62, Tryd.ntmps62
  go_wp2
  go_loop [3, 8] (fun x i => ∃ k : Nat, k ≤ l0.length ∧ i = .int .i64 k ∧ x = .int .u32 (sumf (l0.take k))) (fun _ i => l0.length - (intOf i).toNat)
  case atStart => exact ⟨0, Nat.zero_le _, rfl, rfl⟩
  case round =>
    obtain ⟨k, hk, rfl, rfl⟩ := hrel
    by_cases hlt : k < l0.length
    · obtain ⟨x, hx⟩ : ∃ x, x = sumf (l0.take k) := ⟨_, rfl⟩
      rw [← hx]
      have HX := Aside0.mk hx
      have hxb : U32 x := by rw [hx]; exact sumf_range (fun y hy => HL.out y (List.mem_of_mem_take hy))
      clear hx
      obtain ⟨ad, e1, hcell⟩ := Kd.at_int HR0.out (k : Int) (by omega) (by omega)
      cases e1
      simp only [Int.toNat_natCast] at hcell
      have HC := Aside0.mk (bytes_rd HL.out k hlt)
      obtain ⟨c, hc⟩ : ∃ c, c = rd l0 k := ⟨_, rfl⟩
      rw [← hc] at hcell
      have hcb := HC.out
      rw [← hc] at hcb
      have hy := u32_xor_range hxb ⟨hcb.1, by omega⟩
      have HCC := Aside0.mk hc
      clear hc HC
      obtain ⟨p1, p2, p3⟩ := cellT HT.out hy
      obtain ⟨q1, q2, q3⟩ := cellT HT.out (sum1_range hy)
      have HF := Aside0.mk (sumf_snoc l0 k hlt)
      have hcb1 := hcb.1
      have hcb2 := hcb.2
      have HY := Aside0.mk hy
      have HXB := Aside0.mk hxb
      unfold sum1 at q1 q2 q3
      clear hcb hy hxb
      go_wp2
      go_round
      case rel => exact ⟨k + 1, by omega, by go_num, by rw [HF.out, ← HX.out, ← HCC.out]; rfl⟩
      case measure => simp [intOf]; omega
    · have HXB := Aside0.mk (sumf_range HL.out)
      have HK : l0.take k = l0 := List.take_of_length_le (by omega)
      rw [HK]
      clear HK
      go_wp2
      go_ret
      exact ⟨rfl, rfl⟩
end Go.Proofs.YtnamanalacjhnaaDoor.G
