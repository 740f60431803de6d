/- The walk of CodecSums (this claim's own lemmas). -/
import Derived.Test.YtipefhadafildaaDoorSit
import Derived.Test.YtipefhadafildaaDoorPSumCodecSums
import Derived.Deep.QuietTactic
import Derived.BigQuiet
namespace Go.Proofs.YtipefhadafildaaDoor.CodecSums
open Go.RowKit Go.Proofs.YtipefhadafildaaDoorW.PrintWords Go.Proofs.YtipefhadafildaaDoor.Own Go.Proofs.YtipefhadafildaaDoor.G Go.Proofs.YtipefhadafildaaDoor.Room Go.Proofs.YtipefhadafildaaDoor.PCodecSums
set_option linter.unusedVariables false
theorem behind_nil (l : List Int) (h : l.length ≤ 140737488351232) : screelaw2_behind.f l [] = some l := by
  unfold screelaw2_behind.f
  rw [if_pos (by simp; omega)]
  simp only [List.nil_append, Option.bind_some]
  rw [if_pos (by simp; omega)]
  simp
theorem same_ev (l : List Int) (hm : l.length ≤ 140737488355328) (d : Nat) : ∀ i : Nat, i + d = l.length → Ev (fun k => screelaw2_same.l0 k l l (i : Int)) true := by
  induction d with
  | zero =>
    intro i hi
    refine Ev.step (f := fun _ => some true) (fun k => ?_) (Ev.now _)
    simp only [screelaw2_same.l0]
    rw [if_neg (by omega)]
  | succ d ih =>
    intro i hi
    refine Ev.step (fun k => ?_) (ih (i + 1) (by omega))
    simp only [screelaw2_same.l0]
    rw [if_pos (by omega), if_pos (by omega), if_pos (by omega)]
    simp only [if_true]
    rw [show wrap64 ((i : Int) + 1) = ((i + 1 : Nat) : Int) by unfold wrap64; omega]
theorem same_refl (l : List Int) (hm : l.length ≤ 140737488355328) : ∃ k, screelaw2_same.f k l l = some true := by
  unfold screelaw2_same.f
  simp only [if_true]
  exact (same_ev l hm l.length 0 (by omega)).rounds
theorem u8_xor_range {x y : Int} (hx : 0 ≤ x ∧ x ≤ 255) (hy : 0 ≤ y ∧ y ≤ 255) : 0 ≤ bits .xor .u8 x y ∧ bits .xor .u8 x y ≤ 255 := by
  obtain ⟨a, rfl⟩ := Int.eq_ofNat_of_zero_le hx.1
  obtain ⟨b, rfl⟩ := Int.eq_ofNat_of_zero_le hy.1
  rw [u8_xor_nat a b (by omega) (by omega)]
  have := Nat.xor_lt_two_pow (x := a) (y := b) (n := 8) (by omega) (by omega)
  constructor <;> omega
theorem Bytes_set {l : List Int} (h : Bytes l) (k : Nat) {x : Int} (hx : 0 ≤ x ∧ x ≤ 255) : Bytes (l.set k x) := fun y hy => by
  rcases List.mem_or_eq_of_mem_set hy with h1 | rfl
  · exact h y h1
  · exact hx
set_option maxHeartbeats 1000000 in
set_option maxRecDepth 100000 in
theorem walk_ (A0 : Option Addr) (c0 : Nat) (l0 : List Int) (w : World) (hr0 : Kd.C (Kd.int .u8) w A0 l0.length l0) (hc0 : l0.length ≤ c0) (hl : Bytes l0) (hlen : l0.length ≤ 140737488351232) (hT : GT w) :
    Calls Tryd.prog 3 #[.slice A0 l0.length c0] w fun e w' => e = .returned (.bool true) ∧ Below w.heap.size w w' := by
  have HR0 := Aside0.mk hr0
  have HL := Aside0.mk hl
  have HT := Aside0.mk hT
  clear hr0 hl hT
  obtain ⟨ks, hks⟩ := refSum l0 HL.out (by omega)
  obtain ⟨km, hkm⟩ := same_refl l0 (by omega)
  have HKS := Aside0.mk hks
  have HKM := Aside0.mk hkm
  clear hks hkm
  go_enter Tryd.func3, Tryd.ntmps3
  go_wp2_with fail
  refine (screelaw2_behind.calls A0 c0 l0 none 0 [] l0 _ HR0.out hc0 (Kd.C_of_reads (enc := Value.int .u8) (d := (0 : Int)) (h1 := fun _ => rfl) ⟨rfl, by simp, fun h => by simp at h⟩) (by simp) (behind_nil l0 hlen)).mono ?_
  rintro e w1 ⟨vk, rfl, ho1, hb1⟩
  obtain ⟨Ak, ck, rfl, hck, hCk⟩ := Kd.R_reads ho1
  clear hCk
  have HK := Aside0.mk ho1
  have HB := Aside0.mk hb1
  clear ho1 hb1
  go_wp2_with fail
  refine (bytes_new HB.out HR0.out hc0 hlen HK.out).mono ?_
  rintro e w2 ⟨b, cap, rfl, hS⟩
  generalize w1.heap.size = g at hS ⊢
  have S := Aside0.mk hS
  clear hS HB HK w1
  go_wp2_with fail
  refine (screeref2_Sum.calls ks Ak ck l0 (sumF l0) w2 S.out.keeps hck HKS.out).mono ?_
  rintro e w3 ⟨rfl, hd⟩
  have S3 := Aside0.mk (S.out.step hd.below)
  clear hd S w2
  go_wp2_with fail
  refine (sum_calls _ _ l0 w3 S3.out.reads (by omega) HL.out (HT.out.below S3.out.below)).mono ?_
  rintro e w4 ⟨rfl, rfl⟩
  go_wp2_with fail
  refine (sum_calls _ _ l0 w4 S3.out.reads (by omega) HL.out (HT.out.below S3.out.below)).mono ?_
  rintro e w5 ⟨rfl, rfl⟩
  go_wp2_with fail
  refine (sum_calls _ _ l0 w5 S3.out.reads (by omega) HL.out (HT.out.below S3.out.below)).mono ?_
  rintro e w6 ⟨rfl, rfl⟩
  go_wp2_with fail
  refine (screelaw2_same.calls km _ _ l0 _ _ l0 true w6 S3.out.reads (by omega) S3.out.keeps hck HKM.out).mono ?_
  rintro e w7 ⟨rfl, hd⟩
  have S7 := Aside0.mk (S3.out.step hd.below)
  clear hd S3 w6
  go_wp2_with fail
  obtain ⟨F, hRm, hFb⟩ := S7.out.room
  refine (hold_calls w7 _ F g _ hRm (by simp)).mono ?_
  rintro e w8 ⟨rfl, rfl⟩
  clear hRm hFb F
  go_wp2_with fail
  have HLB := HL
  go_loopw [7] (fun i wr => ∃ (k : Nat) (l : List Int), k ≤ l0.length ∧ i = .int .i64 k ∧ Aside0 (Bytes l) ∧ Aside0 (Sit w wr g b l0.length cap l Ak ck l0)) (fun i _ => l0.length - (intOf i).toNat)
  case atStart => exact ⟨0, l0, Nat.zero_le _, rfl, HL, S7⟩
  case round =>
    clear S7
    obtain ⟨k, l, hk, rfl, HBY, S⟩ := hrel
    by_cases hlt : k < l0.length
    · have hcell := S.out.row.cell k (by rw [S.out.len]; exact hlt)
      have hfz := S.out.row.frozen k
      have hb1 := bytes_rd HBY.out k (by rw [S.out.len]; exact hlt)
      go_wp2_with fail
      have hbx := u8_xor_range hb1 (y := ((k : Int) + 1) % 256) ⟨by omega, by omega⟩
      exact ⟨⟨k + 1, l.set k (bits .xor .u8 (rd l k) (((k : Int) + 1) % 256)), by omega, by go_num, ⟨Bytes_set HBY.out k hbx⟩, ⟨S.out.set k (by rw [S.out.len]; exact hlt) _⟩⟩, by simp [intOf]; omega⟩
    · have hll : Aside0 (l.length = l0.length) := ⟨S.out.len⟩
      obtain ⟨ks2, hks2⟩ := refSum l HBY.out (by rw [hll.out]; omega)
      have HKS2 := Aside0.mk hks2
      clear hks2
      go_wp2_with fail
      have hcall := sum_calls (some ⟨b, 0, none⟩) (l0.length + 600) l wr S.out.reads (by rw [hll.out]; omega) HBY.out (HT.out.below S.out.below)
      rw [hll.out] at hcall
      refine hcall.mono ?_
      clear hcall
      rintro e w9 ⟨rfl, rfl⟩
      go_wp2_with fail
      have hcall := (screelaw2_behind.calls (some ⟨b, 0, none⟩) (l0.length + 600) l none 0 [] l w9 S.out.reads (by rw [hll.out]; omega) (Kd.C_of_reads (enc := Value.int .u8) (d := (0 : Int)) (h1 := fun _ => rfl) ⟨rfl, by simp, fun h => by simp at h⟩) (by simp) (behind_nil l (by rw [hll.out]; exact hlen)))
      rw [hll.out] at hcall
      refine hcall.mono ?_
      clear hcall
      rintro e w10 ⟨vn, rfl, ho10, hb10⟩
      obtain ⟨An, cn, rfl, hcn, hCn⟩ := Kd.R_reads ho10
      have HCN := Aside0.mk hCn
      have S10 := Aside0.mk (S.out.step hb10)
      clear ho10 hCn hb10 S w9
      go_wp2_with fail
      refine (screeref2_Sum.calls ks2 An cn l (sumF l) w10 HCN.out hcn HKS2.out).mono ?_
      rintro e w11 ⟨rfl, hd⟩
      have S11 := Aside0.mk (S10.out.step hd.below)
      clear hd S10 HCN w10
      go_wp2_with fail
      refine (sum_calls _ _ l0 w11 S11.out.keeps hck HL.out (HT.out.below S11.out.below)).mono ?_
      rintro e w12 ⟨rfl, rfl⟩
      go_wp2_with fail
      go_ret
      exact ⟨rfl, S11.out.below⟩
theorem walk (A0 : Option Addr) (c0 : Nat) (l0 : List Int) {w' : World} (hr0 : Kd.C (Kd.int .u8) w' A0 l0.length l0) (hc0 : l0.length ≤ c0) (hw : ∀ x ∈ l0, (Lit.int .u8 x).wf = true) (y : l0.length * 1 ≤ 140737488351232) (w : World) (hT : GT w) (e : w' = w := by rfl) :
    Calls Tryd.prog 3 #[.slice A0 l0.length c0] w fun e w' => e = .returned (.bool true) ∧ Below w.heap.size w w' := by
  subst e
  exact walk_ A0 c0 l0 _ hr0 hc0 (bytes_wf hw) (by omega) hT
end Go.Proofs.YtipefhadafildaaDoor.CodecSums
