-- Printed by a program of this claim's own out of the translation.
import Derived.Test.YtlcohooognjmaaaDoorQBlx0
namespace Go.Proofs.YtlcohooognjmaaaDoor.QBl
open Go.Proofs.YtlcohooognjmaaaDoor.Own
open Go.RowKit Go.Proofs.YtlcohooognjmaaaDoorW.PrintWords Go.Proofs.YtlcohooognjmaaaDoorW.PrintLast Go.Proofs.YtlcohooognjmaaaDoorW.PrintMore
attribute [local go_sem] max2_int min2_int max_two min_two max_three min_three max_four min_four   -- for this text's walks alone
set_option linter.unusedVariables false
set_option linter.unusedSimpArgs false

/-! ### codec_Sum: function 20 -/
open Go.Proofs.YtlcohooognjmaaaDoor.G
def codec_Sum.f (l0 : List Int) : Option Int := if okB l0 = true then some (sumF l0) else none
theorem codec_Sum.calls (A0 : Option Addr) (c0 : Nat) (l0 : List Int) (r : Int) (w : World) (hr0 : Kd.C (Kd.int .u8) w A0 l0.length l0) (hc0 : l0.length ≤ c0) (h : codec_Sum.f l0 = some r) (hT_ : GT w) :
    Calls Tryd.prog 20 #[.slice A0 l0.length c0] w fun e w' => e = .returned (.int .u32 r) ∧ w' = w := by
  unfold codec_Sum.f at h
  split at h
  · rename_i hh
    rw [← Option.some.inj h]
    exact Go.Proofs.YtlcohooognjmaaaDoor.G.sum_calls A0 c0 l0 w hr0 hc0 (okB_iff.1 hh) hT_
  · cases h

/-! ### bits_RotateLeft32: function 39 -/
def bits_RotateLeft32.f (a0 : Int) (a1 : Int) : Option (Int) := if 0 ≤ (Go.bits .and .u64 (IntKind.u64.wrap (a1)) 31) then (if 0 ≤ (IntKind.u64.wrap (32 - (Go.bits .and .u64 (IntKind.u64.wrap (a1)) 31))) then (some (Go.bits .or .u32 (shl .u32 a0 (Go.bits .and .u64 (IntKind.u64.wrap (a1)) 31)) (shr .u32 a0 (IntKind.u64.wrap (32 - (Go.bits .and .u64 (IntKind.u64.wrap (a1)) 31)))))) else (none)) else (none)
set_option maxHeartbeats 8000000 in
set_option maxRecDepth 100000 in
theorem bits_RotateLeft32.calls (a0 : Int) (a1 : Int) (r : Int) (w : World) (h : bits_RotateLeft32.f a0 a1 = some r) :
    Calls Tryd.prog 39 #[.int .u32 a0, .int .i64 a1] w fun e w' => e = .returned (.int .u32 r) ∧ Drawn0 w w' := by
  have H : (if 0 ≤ (Go.bits .and .u64 (IntKind.u64.wrap (a1)) 31) then (if 0 ≤ (IntKind.u64.wrap (32 - (Go.bits .and .u64 (IntKind.u64.wrap (a1)) 31))) then (some (Go.bits .or .u32 (shl .u32 a0 (Go.bits .and .u64 (IntKind.u64.wrap (a1)) 31)) (shr .u32 a0 (IntKind.u64.wrap (32 - (Go.bits .and .u64 (IntKind.u64.wrap (a1)) 31)))))) else (none)) else (none)) = some r := h
  clear h
  obtain ⟨ji3, hji3⟩ : ∃ j_ : Int, (Go.bits .and .u64 (IntKind.u64.wrap (a1)) 31) = j_ := ⟨_, rfl⟩
  replace H : (if 0 ≤ (ji3) then (if 0 ≤ (IntKind.u64.wrap (32 - (ji3))) then (some (Go.bits .or .u32 (shl .u32 a0 (ji3)) (shr .u32 a0 (IntKind.u64.wrap (32 - (ji3)))))) else (none)) else (none)) = some r := by first | (rw [hji3] at H; exact H) | (simp only [hji3] at H ⊢; exact H)
  by_cases c4 : 0 ≤ (ji3)
  · rw [if_pos c4] at H
    have c4b0 := eq_true c4
    have c4b1 : decide (0 ≤ (ji3)) = true := decide_eq_true c4
    clear c4
    obtain ⟨ji5, hji5⟩ : ∃ j_ : Int, (shl .u32 a0 (ji3)) = j_ := ⟨_, rfl⟩
    replace H : (if 0 ≤ (IntKind.u64.wrap (32 - (ji3))) then (some (Go.bits .or .u32 (ji5) (shr .u32 a0 (IntKind.u64.wrap (32 - (ji3)))))) else (none)) = some r := by first | (rw [hji5] at H; exact H) | (simp only [hji5] at H ⊢; exact H)
    have hji5_ : (IntKind.u32.wrap (a0 * 2 ^ min (ji3).toNat 32)) = ji5 := hji5
    have hji5z : (ji3) ≤ 32 → (IntKind.u32.wrap (a0 * 2 ^ (ji3).toNat)) = ji5 := shl_small hji5
    obtain ⟨ji6, hji6⟩ : ∃ j_ : Int, (IntKind.u64.wrap (32 - (ji3))) = j_ := ⟨_, rfl⟩
    replace H : (if 0 ≤ (ji6) then (some (Go.bits .or .u32 (ji5) (shr .u32 a0 (ji6)))) else (none)) = some r := by first | (rw [hji6] at H; exact H) | (simp only [hji6] at H ⊢; exact H)
    by_cases c7 : 0 ≤ (ji6)
    · rw [if_pos c7] at H
      have c7b0 := eq_true c7
      have c7b1 : decide (0 ≤ (ji6)) = true := decide_eq_true c7
      clear c7
      obtain ⟨ji8, hji8⟩ : ∃ j_ : Int, (shr .u32 a0 (ji6)) = j_ := ⟨_, rfl⟩
      replace H : (some (Go.bits .or .u32 (ji5) (ji8))) = some r := by first | (rw [hji8] at H; exact H) | (simp only [hji8] at H ⊢; exact H)
      have hji8_ : (a0 / 2 ^ min (ji6).toNat 32) = ji8 := hji8
      have hji8z : (ji6) ≤ 32 → (a0 / 2 ^ (ji6).toNat) = ji8 := shr_small hji8
      obtain rfl := Option.some.inj H
      go_enter Tryd.func39, Tryd.ntmps39
      go_wp2
      go_ret
      exact ⟨by first | rfl | (simp; done) | (simp only [← hji3, ← hji5, ← hji6, ← hji8] <;> (first | rfl | simp)) | (simp [*]; done), by repeat (first | exact Drawn0.refl _ | apply Drawn0.step)⟩
    · rw [if_neg c7] at H
      exact absurd H (by simp)
  · rw [if_neg c4] at H
    exact absurd H (by simp)

/-! ### bloom_probe_p: function 21 -/
def bloom_probe_p.f (a0 : Int) (a1 : Int) (a2 : Int) : Option (Int) := (bits_RotateLeft32.f a0 (-17)).bind fun t101 => (if a2 = 0 then (none) else (some (((a0 + (((a1) % 4294967296) * t101)) % 4294967296) % a2)))
set_option maxHeartbeats 8000000 in
set_option maxRecDepth 100000 in
theorem bloom_probe_p.calls (a0 : Int) (a1 : Int) (a2 : Int) (r : Int) (w : World) (h : bloom_probe_p.f a0 a1 a2 = some r) :
    Calls Tryd.prog 21 #[.int .u32 a0, .int .i64 a1, .int .i64 a2] w fun e w' => e = .returned (.int .i64 r) ∧ Drawn0 w w' := by
  have H : ((bits_RotateLeft32.f a0 (-17)).bind fun t101 => (if a2 = 0 then (none) else (some (((a0 + (((a1) % 4294967296) * t101)) % 4294967296) % a2)))) = some r := h
  clear h
  replace H := Option.bind_eq_some_iff.mp H
  obtain ⟨t101, A40, H⟩ := H
  replace H : (if a2 = 0 then (none) else (some (((a0 + (((a1) % 4294967296) * t101)) % 4294967296) % a2))) = some r := H
  have A4 := Aside0.mk A40
  clear A40
  by_cases c5 : a2 = 0
  · rw [if_pos c5] at H
    exact absurd H (by simp)
  · rw [if_neg c5] at H
    have c5b0 : (a2 == 0) = false := beq_eq_false_iff_ne.mpr c5
    have c5b1 : (a2 != 0) = true := bne_iff_ne.mpr c5
    obtain rfl := Option.some.inj H
    go_enter Tryd.func21, Tryd.ntmps21
    go_wp2_with (first | ((with_reducible refine gate_callee (f := 39) rfl ?_); refine goesL_ (some 9) rfl rfl Tryd.func39 (by kernel_rfl) rfl #[.int .u32 a0, .int .i64 (-17)] rfl (by (try simp only [List.map_toArray, List.map_cons, List.map_nil]); first | done | rfl | (simp only [List.length_drop, List.length_take]; rfl)) ?_; (with_reducible refine (bits_RotateLeft32.calls a0 (-17) t101 _ A4.out).mono ?_); rintro e w' ⟨rfl, ⟨nd, rfl⟩⟩; refine ⟨_, rfl, ?_⟩))
    go_ret
    exact ⟨by first | rfl | (simp; done) | (simp [*]; done), by repeat (first | exact Drawn0.refl _ | apply Drawn0.step)⟩

/-! ### bloom_probe: function 21 -/
open Go.Proofs.YtlcohooognjmaaaDoor.Bl
theorem rot17 (h : Nat) (hh : h < 4294967296) : bits_RotateLeft32.f (h : Int) (-17) = some ((rotN h : Nat) : Int) := by
  unfold bits_RotateLeft32.f
  have e1 : Go.bits .and .u64 (IntKind.u64.wrap (-17)) 31 = 15 := by decide +kernel
  have e2 : IntKind.u64.wrap (32 - 15) = 17 := by decide +kernel
  rw [e1, if_pos (by omega), e2, if_pos (by omega)]
  have e3 : shl .u32 (h : Int) 15 = ((h % 131072 * 32768 : Nat) : Int) := by
    unfold shl
    rw [show min (15 : Int).toNat IntKind.u32.bits = 15 by decide, show ((2 : Int) ^ 15) = 32768 by decide]
    have hw : ∀ x : Int, IntKind.u32.wrap x = x % 4294967296 := fun x => by simp [IntKind.wrap, IntKind.bits, IntKind.signed]
    rw [hw]
    omega
  have e4 : shr .u32 (h : Int) 17 = ((h / 131072 : Nat) : Int) := by
    unfold shr
    rw [show min (17 : Int).toNat IntKind.u32.bits = 17 by decide, show ((2 : Int) ^ 17) = 131072 by decide]
    omega
  rw [e3, e4, u32_or_nat _ _ (by omega) (by omega)]
  have e5 : h % 131072 * 32768 ||| h / 131072 = rotN h := by
    unfold rotN
    rw [Nat.mul_comm, show (32768 : Nat) = 2 ^ 15 from rfl, ← Nat.two_pow_add_eq_or_of_lt (i := 15) (by omega) (h % 131072)]
    omega
  rw [e5]
def bloom_probe.f (a0 a1 a2 : Int) : Option Int := if 0 ≤ a0 ∧ a0 < 4294967296 ∧ 0 ≤ a1 ∧ 0 < a2 then some ((prb a0.toNat a1.toNat a2.toNat : Nat) : Int) else none
theorem bloom_probe.calls (a0 : Int) (a1 : Int) (a2 : Int) (r : Int) (w : World) (h : bloom_probe.f a0 a1 a2 = some r) :
    Calls Tryd.prog 21 #[.int .u32 a0, .int .i64 a1, .int .i64 a2] w fun e w' => e = .returned (.int .i64 r) ∧ Drawn0 w w' := by
  unfold bloom_probe.f at h
  split at h
  · rename_i hh
    obtain ⟨h1, h2, h3, h4⟩ := hh
    obtain ⟨H, rfl⟩ := Int.eq_ofNat_of_zero_le h1
    obtain ⟨i, rfl⟩ := Int.eq_ofNat_of_zero_le h3
    obtain ⟨m, rfl⟩ := Int.eq_ofNat_of_zero_le (Int.le_of_lt h4)
    refine bloom_probe_p.calls _ _ _ r w ?_
    unfold bloom_probe_p.f
    rw [rot17 H (by omega)]
    simp only [Option.bind_some]
    rw [if_neg (by omega), ← h]
    simp only [Int.toNat_natCast]
    unfold prb
    congr 1
    have e : (H + i % 4294967296 * rotN H) % 4294967296 = (H + i * rotN H) % 4294967296 := by
      rw [Nat.add_mod, Nat.mul_mod, Nat.mod_mod, ← Nat.mul_mod, ← Nat.add_mod]
    rw [← e, Int.natCast_emod, Int.natCast_emod, Int.natCast_add, Int.natCast_mul, Int.natCast_emod]
    rfl
  · cases h

/-! ### bloom_Make: function 10 -/
open Go.Proofs.YtlcohooognjmaaaDoor.Bl Go.Proofs.YtlcohooognjmaaaDoor.G
def sizesB (l : List ByteArray) : Bool := l.all fun s => decide (s.size ≤ 9223372036854775807)
theorem sizesB_iff {l : List ByteArray} : sizesB l = true ↔ ∀ s ∈ l, s.size ≤ 9223372036854775807 := by simp [sizesB, List.all_eq_true]
def bloom_Make.f (l0 : List ByteArray) (a1 : Int) : Option (List Int) := if sizesB l0 = true ∧ l0.length ≤ 8796093022208 ∧ -9223372036854775808 ≤ a1 ∧ a1 ≤ 9223372036854775807 then some (makeL l0 a1) else none
set_option maxHeartbeats 4000000 in
set_option maxRecDepth 100000 in
theorem bloom_Make.calls (A0 : Option Addr) (c0 : Nat) (l0 : List ByteArray) (a1 : Int) (r : List Int) (w : World) (hr0 : Kd.C Kd.string w A0 l0.length l0) (hc0 : l0.length ≤ c0) (h : bloom_Make.f l0 a1 = some r) (hT_ : GT w) :
    Calls Tryd.prog 10 #[.slice A0 l0.length c0, .int .i64 a1] w fun e w' => ∃ v0_ : Value, e = .returned (v0_) ∧ Kd.R (Kd.int .u8) 5 w' w.heap.size (fun _ => True) v0_ r ∧ Below w.heap.size w w' := by
  unfold bloom_Make.f at h
  split at h
  · rename_i hh
    obtain ⟨hs, hl, ha1, ha2⟩ := hh
    have hs := sizesB_iff.1 hs
    have h := Option.some.inj h
    unfold makeL at h
    have HR0 := Aside0.mk hr0
    have HT := Aside0.mk hT_
    have HS := Aside0.mk hs
    clear hr0 hT_ hs
    by_cases h1 : a1 < 1
    · rw [if_pos (.inl h1)] at h
      subst h
      have d1 : decide (a1 < 1) = true := decide_eq_true h1
      go_enter Tryd.func10, Tryd.ntmps10
      go_wp2
      go_ret
      exact ⟨_, rfl, Kd.R_nil _ _ _ _ _, Below.refl _ _⟩
    · have d1 : decide (a1 < 1) = false := decide_eq_false h1
      by_cases h0 : l0.length = 0
      · have hn : l0 = [] := List.eq_nil_of_length_eq_zero h0
        rw [if_pos (.inr hn)] at h
        subst h
        have d2 : ((l0.length : Int) == 0) = true := by rw [beq_iff_eq]; omega
        have d3 : (l0.length == 0) = true := by rw [beq_iff_eq]; omega
        clear h0 hn
        go_enter Tryd.func10, Tryd.ntmps10
        go_wp2
        go_ret
        exact ⟨_, rfl, Kd.R_nil _ _ _ _ _, Below.refl _ _⟩
      · rw [if_neg (by rintro (h2 | h2); exact h1 h2; exact h0 (by rw [h2]; rfl))] at h
        have d2 : ((l0.length : Int) == 0) = false := by rw [beq_eq_false_iff_ne]; omega
        have d3 : (l0.length == 0) = false := by rw [beq_eq_false_iff_ne]; omega
        obtain ⟨b, rfl⟩ := Int.eq_ofNat_of_zero_le (show 0 ≤ a1 by omega)
        rw [Int.toNat_natCast] at h
        obtain ⟨sz, hsz⟩ : ∃ sz, sz = min b 16 := ⟨_, rfl⟩
        rw [← hsz] at h
        have hsz1 : 1 ≤ sz ∧ sz ≤ 16 := by omega
        have e1 : (if (16 : Int) < (b : Int) then (16 : Int) else (b : Int)) = (sz : Int) := by split <;> omega
        obtain ⟨M, hM⟩ : ∃ M, M = l0.length * sz := ⟨_, rfl⟩
        have hM1 : M ≤ 140737488355328 := by
          rw [hM]
          have := Nat.mul_le_mul hl hsz1.2
          omega
        have e2 : wrap64 ((l0.length : Int) * (sz : Int)) = (M : Int) := by
          rw [← Int.natCast_mul, ← hM]
          unfold wrap64
          omega
        obtain ⟨m, hm⟩ : ∃ m, m = places l0.length sz := ⟨_, rfl⟩
        have hmg := places_ge l0.length sz
        rw [← hm] at hmg
        obtain ⟨X, hX⟩ : ∃ X, X = max ((M + 7) / 8 * 8) 64 := ⟨_, rfl⟩
        have e3 : (if ((M : Int) + 7) / 8 * 8 < 64 then (64 : Int) else ((M : Int) + 7) / 8 * 8) = (X : Int) := by split <;> omega
        have e4 : (if (1048576 : Int) < (X : Int) then (1048576 : Int) else (X : Int)) = (m : Int) := by
          have : m = min X 1048576 := by rw [hm, hX, hM]; rfl
          split <;> omega
        obtain ⟨q, hq⟩ : ∃ q, q = m / 8 := ⟨_, rfl⟩
        have e5 : ((m : Int) / 8) = (q : Int) := by omega
        obtain ⟨k, hk⟩ : ∃ k, k = probesN sz := ⟨_, rfl⟩
        have hkg := probes_ge sz hsz1.2
        rw [← hk] at hkg
        have e6 : (if (sz : Int) * 69 / 100 < 1 then (1 : Int) else (sz : Int) * 69 / 100) = (k : Int) := by
          unfold probesN at hk
          split <;> omega
        have hqm : 8 * q = m := by omega
        have HQM := Aside0.mk hqm
        have HH : Aside0 (l0.foldl (keyB k m) (List.replicate q 0) ++ [((k : Nat) : Int)] = r) := ⟨by rw [← h, hk, hq, hm]; rfl⟩
        have hq8 : 8 ≤ q ∧ q ≤ 131072 := by omega
        obtain ⟨hq8, hq9⟩ := hq8
        obtain ⟨hm1, hm2, -⟩ := hmg
        obtain ⟨hk1, hk2⟩ := hkg
        obtain ⟨hsz2, hsz3⟩ := hsz1
        clear h hsz hM hm hX hq hk hqm
        go_enter Tryd.func10, Tryd.ntmps10
        go_wp2_with (first | (at_make; go_must (refine R_make_cap (enc := Value.int .u8) (h1 := fun _ => rfl) (w0 := w) w.heap.size 5 rfl (N := 40) rfl 42 _ _ rfl (q : Int) ((q : Int) + 1) rfl rfl Tryd.underlying42 (0 : Int) 1 info5 rfl (by omega) (ok := fun _ => True) trivial (by omega) (by omega) (by omega) (Below.refl _ _) (Nat.le_refl _) ?_); intro v1 w1 ho hb hg hn; (have HO := Aside0.mk ho); (have HB := Aside0.mk hb); clear ho hb hg hn))
        have hzz := HO.out
        rw [Int.toNat_natCast] at hzz
        have HO1 := Aside0.mk hzz
        obtain ⟨A7, c7, e7⟩ := Kd.R_slice hzz
        rw [List.length_replicate] at e7
        subst e7
        obtain ⟨g, rfl, hg⟩ := own_block HO1.out (by omega)
        clear HO hzz
        go_loopw [43] (fun iv wr => ∃ (i : Nat) (L : List Int), i ≤ l0.length ∧ iv = .int .i64 (i : Int) ∧ Aside0 (L = (l0.take i).foldl (keyB k m) (List.replicate q 0)) ∧ Aside0 (Bytes L) ∧ Aside0 (Kd.R (Kd.int .u8) 5 wr w.heap.size (fun _ => True) (.slice (some ⟨g, 0, none⟩) q c7) L) ∧ Aside0 (Below w.heap.size w wr)) (fun iv _ => l0.length - (intOf iv).toNat)
        case atStart => exact ⟨0, _, by omega, rfl, ⟨rfl⟩, ⟨zeros_bytes q⟩, HO1, HB⟩
        case round =>
          clear HO1 HB
          obtain ⟨i, L, hi, rfl, HL, HLB, HO, HB⟩ := hrel
          by_cases hlt : i < l0.length
          · obtain ⟨ad, e1', hcell⟩ := Kd.at_string (Kd.C_below HR0.out HB.out) (i : Int) (by omega) (by omega)
            cases e1'
            rw [Int.toNat_natCast] at hcell
            obtain ⟨s, hs'⟩ : ∃ s, s = l0[i] := ⟨_, rfl⟩
            have hrd : rdOf ByteArray.empty l0 (i : Int) = s := by rw [hs']; simp [rdOf, List.getD_eq_getElem?_getD, hlt]
            rw [hrd] at hcell
            obtain ⟨A, c, w2, hrun, hc1, hC, hb1⟩ := conv_bytes (P := Tryd.prog) wr 9 42 5 s Tryd.underlying9 Tryd.underlying42 Tryd.underlying5 (HS.out s (by rw [hs']; exact List.getElem_mem hlt))
            have HC := Aside0.mk hC
            have HX : Aside0 (codec_Sum.f (bytesOf s) = some ((hashS s : Nat) : Int)) := ⟨by unfold codec_Sum.f; rw [if_pos (okB_iff.2 (bytes_str s)), hashS_eq]⟩
            have hlt32 := hash_lt s
            obtain ⟨H, hH⟩ : ∃ H, H = hashS s := ⟨_, rfl⟩
            rw [← hH] at HX hlt32
            have HO2 := Aside0.mk (Kd.R_below HO.out hb1)
            have HB2 := Aside0.mk (below_then HB.out HB.out.size hb1)
            have HT2 := Aside0.mk (GT.below HT.out HB2.out)
            have HKS := Aside0.mk (keys_succ k m l0 i hlt (List.replicate q 0))
            have HSE := Aside0.mk hs'
            have HHE := Aside0.mk hH
            clear hC hb1 hH hs' hrd HO HB
            go_wp2_with fail
            refine (codec_Sum.calls A c (bytesOf s) _ w2 HC.out hc1 HX.out HT2.out).mono ?_
            rintro e w3 ⟨rfl, rfl⟩
            go_wp2_with fail
            go_loopw [51] (fun jv wr => ∃ (j : Nat) (L2 : List Int), j ≤ k ∧ jv = .int .i64 (j : Int) ∧ Aside0 (L2 = (spotsL H j m).foldl setB L) ∧ Aside0 (Bytes L2) ∧ Aside0 (Kd.R (Kd.int .u8) 5 wr w.heap.size (fun _ => True) (.slice (some ⟨g, 0, none⟩) q c7) L2) ∧ Aside0 (Below w.heap.size w wr)) (fun jv _ => k - (intOf jv).toNat)
            case atStart => exact ⟨0, L, by omega, rfl, ⟨rfl⟩, HLB, HO2, HB2⟩
            case round =>
              clear HO2 HB2 hrun HC HT2 hcell
              obtain ⟨j, L2, hj, rfl, HL2, HLB2, HO, HB⟩ := hrel
              by_cases hlt2 : j < k
              · have HP : Aside0 (bloom_probe.f (H : Int) (j : Int) (m : Int) = some ((prb H j m : Nat) : Int)) := ⟨by unfold bloom_probe.f; rw [if_pos ⟨by omega, by omega, by omega, by omega⟩]; rfl⟩
                have hp := prb_lt H j m (by omega)
                obtain ⟨P, hP⟩ : ∃ P, P = prb H j m := ⟨_, rfl⟩
                rw [← hP] at HP hp
                have HPP := Aside0.mk hP
                have hpq : P / 8 < q := by have := HQM.out; omega
                clear hP
                go_wp2_with fail
                refine (bloom_probe.calls (H : Int) (j : Int) (m : Int) ((P : Nat) : Int) _ HP.out).mono ?_
                rintro e w4 ⟨rfl, hD⟩
                have HOd := Aside0.mk (Kd.R_below HO.out hD.below)
                have HBd := Aside0.mk (below_then HB.out HB.out.size hD.below)
                obtain ⟨hcell, hfz⟩ := Kd.R_celln (0 : Int) HOd.out ((P / 8 : Nat) : Int) (by omega) (by omega)
                rw [Int.toNat_natCast] at hcell hfz
                clear hD HO HB
                go_wp2_with fail
                go_region
                all_goals go_wp2_with fail
                all_goals exact ⟨⟨j + 1, setB L2 P, by omega, by go_num, ⟨by rw [spots_succ, List.foldl_append, ← HL2.out, ← HPP.out]; rfl⟩, ⟨setB_bytes HLB2.out P⟩, ⟨by rw [← set_eq]; exact Kd.R_putn HOd.out ((P / 8 : Nat) : Int) _⟩, ⟨below_drew (below_set HBd.out hg)⟩⟩, by simp [intOf]; omega⟩
              · obtain rfl : j = k := by omega
                go_wp2_with fail
                exact ⟨⟨i + 1, L2, by omega, by go_num, ⟨by rw [HKS.out, HL2.out, HL.out, ← HSE.out, HHE.out]; rfl⟩, HLB2, HO, HB⟩, by simp [intOf]; omega⟩
          · obtain rfl : i = l0.length := by omega
            have HR : Aside0 (L ++ [((k : Nat) : Int)] = r) := ⟨by rw [← HH.out, HL.out, List.take_length]⟩
            have hkb : (k : Int) % 256 = (k : Int) := by omega
            go_wp2_with (first
              | ((with_reducible refine gate_builtin (b := .append) (xs := #[.tmp 70, .tmp 73]) rfl ?_); at_builtin; go_must (refine Kd.R_append (Kd.int .u8) (w0 := w) w.heap.size rfl (.tmp 70) (.tmp 73) 42 5 (.int .u8 0) 1 rfl Tryd.underlying42 info5 rfl (by decide) (by omega) _ L (k : Int) [.int .u8 (k : Int)] (fun _ => True) (fun _ => False) rfl rfl rfl (fun _ hk => hk.elim) (fun _ _ => trivial) ?aO ?aB ?aS ?aL ?_); (case aO => exact HO.out); (case aB => exact HB.out); (case aS => exact HB.out.size); (case aL => have := (Kd.R_reads' HO.out).1; omega); intro v2 w2 ho hb hg_ hn_; (have HO2 := Aside0.mk ho); (have HB2 := Aside0.mk hb); clear ho hb hg_ hn_))
            go_ret
            exact ⟨_, rfl, by rw [← HR.out]; exact HO2.out, HB2.out⟩
  · cases h

/-! ### bloom_May: function 15 -/
open Go.Proofs.YtlcohooognjmaaaDoor.Bl Go.Proofs.YtlcohooognjmaaaDoor.G
def bloom_May.f (l0 : List Int) (a1 : ByteArray) : Option Bool := if okB l0 = true ∧ l0.length ≤ 140737488351232 ∧ a1.size ≤ 9223372036854775807 then some (mayL l0 a1) else none
set_option maxHeartbeats 2000000 in
set_option maxRecDepth 100000 in
theorem bloom_May.calls (A0 : Option Addr) (c0 : Nat) (l0 : List Int) (a1 : ByteArray) (r : Bool) (w : World) (hr0 : Kd.C (Kd.int .u8) w A0 l0.length l0) (hc0 : l0.length ≤ c0) (h : bloom_May.f l0 a1 = some r) (hT_ : GT w) :
    Calls Tryd.prog 15 #[.slice A0 l0.length c0, .string a1] w fun e w' => e = .returned (.bool r) ∧ Below w.heap.size w w' := by
  unfold bloom_May.f at h
  split at h
  · rename_i hh
    obtain ⟨hb, hl, hs⟩ := hh
    have hb := okB_iff.1 hb
    have h := Option.some.inj h
    unfold mayL at h
    have HR0 := Aside0.mk hr0
    have HT := Aside0.mk hT_
    have HB := Aside0.mk hb
    clear hr0 hT_ hb
    by_cases h9 : l0.length < 9
    · rw [if_pos h9] at h
      subst h
      have d1 : decide ((l0.length : Int) - 1 < 8) = true := decide_eq_true (by omega)
      go_enter Tryd.func15, Tryd.ntmps15
      go_wp2
      go_ret
      exact ⟨rfl, Below.refl _ _⟩
    · rw [if_neg h9] at h
      obtain ⟨n, hn⟩ : ∃ n, n = l0.length - 1 := ⟨_, rfl⟩
      rw [← hn] at h
      have hni : (l0.length : Int) - 1 = (n : Int) := by omega
      obtain ⟨ad, e1, hcell⟩ := Kd.at_int HR0.out (n : Int) (by omega) (by omega)
      cases e1
      rw [Int.toNat_natCast] at hcell
      obtain ⟨k, hk⟩ := Int.eq_ofNat_of_zero_le (bytes_rd HB.out n (by omega)).1
      have hk2 := (bytes_rd HB.out n (by omega)).2
      rw [hk] at hcell h hk2
      rw [Int.toNat_natCast] at h
      have HN := Aside0.mk hn
      have h8 : 8 ≤ n := by omega
      have d1 : decide ((n : Int) < 8) = false := decide_eq_false (by omega)
      clear hk hn
      by_cases hk0 : k = 0
      · rw [if_pos (.inl hk0)] at h
        subst h hk0
        go_enter Tryd.func15, Tryd.ntmps15
        go_wp2
        go_ret
        exact ⟨rfl, Below.refl _ _⟩
      · have k0 : ((k : Int) == 0) = false := by rw [beq_eq_false_iff_ne]; omega
        by_cases hk11 : 11 < k
        · rw [if_pos (.inr hk11)] at h
          subst h
          have d2 : decide ((11 : Int) < (k : Int)) = true := decide_eq_true (by omega)
          go_enter Tryd.func15, Tryd.ntmps15
          go_wp2
          go_ret
          exact ⟨rfl, Below.refl _ _⟩
        · rw [if_neg (by omega)] at h
          have d2 : decide ((11 : Int) < (k : Int)) = false := decide_eq_false (by omega)
          obtain ⟨A, c, w1, hrun, hc1, hC, hb1⟩ := conv_bytes (P := Tryd.prog) w 9 42 5 a1 Tryd.underlying9 Tryd.underlying42 Tryd.underlying5 hs
          have HC := Aside0.mk hC
          have HB1 := Aside0.mk hb1
          have HX : Aside0 (codec_Sum.f (bytesOf a1) = some ((hashS a1 : Nat) : Int)) := ⟨by unfold codec_Sum.f; rw [if_pos (okB_iff.2 (bytes_str a1)), hashS_eq]⟩
          have hlt := hash_lt a1
          obtain ⟨H, hH⟩ : ∃ H, H = hashS a1 := ⟨_, rfl⟩
          rw [← hH] at HX h hlt
          have HR1 := Aside0.mk (Kd.C_below HR0.out hb1)
          have HT1 := Aside0.mk (GT.below HT.out hb1)
          clear hC hb1 hH
          go_enter Tryd.func15, Tryd.ntmps15
          go_wp2_with fail
          refine (codec_Sum.calls A c (bytesOf a1) _ w1 HC.out hc1 HX.out HT1.out).mono ?_
          rintro e w2 ⟨rfl, rfl⟩
          go_wp2_with fail
          go_loopw [30] (fun i wr => ∃ j : Nat, j ≤ k ∧ i = .int .i64 (j : Int) ∧ Aside0 (Below w.heap.size w wr) ∧ Aside0 (∀ q, q < j → hasB l0 (prb H q (8 * n)) = true)) (fun i _ => k - (intOf i).toNat)
          case atStart => exact ⟨0, by omega, rfl, HB1, ⟨fun q hq => by omega⟩⟩
          case round =>
            obtain ⟨j, hj, rfl, HBJ, HALL⟩ := hrel
            by_cases hlt2 : j < k
            · have HP : Aside0 (bloom_probe.f (H : Int) (j : Int) (8 * (n : Int)) = some ((prb H j (8 * n) : Nat) : Int)) := ⟨by unfold bloom_probe.f; rw [if_pos ⟨by omega, by omega, by omega, by omega⟩]; congr 3⟩
              have hp := prb_lt H j (8 * n) (by omega)
              obtain ⟨P, hP⟩ : ∃ P, P = prb H j (8 * n) := ⟨_, rfl⟩
              rw [← hP] at HP hp
              have HPP := Aside0.mk hP
              clear hP
              have HRJ := Aside0.mk (Kd.C_below HR0.out HBJ.out)
              go_wp2_with fail
              refine (bloom_probe.calls (H : Int) (j : Int) (8 * (n : Int)) ((P : Nat) : Int) _ HP.out).mono ?_
              rintro e w3 ⟨rfl, ⟨m3, rfl⟩⟩
              obtain ⟨ad, e1, hcell⟩ := Kd.at_int (Kd.C_drewN HRJ.out m3) (((P / 8 : Nat)) : Int) (by omega) (by omega)
              cases e1
              rw [Int.toNat_natCast] at hcell
              have HBT := Aside0.mk (bit_test HB.out P)
              have HBN : Aside0 (Below w.heap.size w (wr.drewN m3)) := ⟨pw_below_drewN HBJ.out m3⟩
              cases hq : hasB l0 P
              · have ht : (bits .and .u8 (rd l0 ((P : Int) / 8) / 2 ^ (P % 8)) 1 == 0) = true := by rw [HBT.out, hq]; rfl
                have hr : r = false := by
                  rw [← h, List.all_eq_false]
                  exact ⟨P, by rw [HPP.out]; exact List.mem_map.2 ⟨j, List.mem_range.2 hlt2, rfl⟩, by rw [hq]; simp⟩
                subst hr
                clear hq
                go_wp2_with fail
                go_ret
                exact ⟨rfl, HBN.out⟩
              · have ht : (bits .and .u8 (rd l0 ((P : Int) / 8) / 2 ^ (P % 8)) 1 == 0) = false := by rw [HBT.out, hq]; rfl
                have HQ := Aside0.mk hq
                clear hq
                go_wp2_with fail
                exact ⟨⟨j + 1, by omega, by go_num, HBN, ⟨fun q hq => by
                  by_cases e : q = j
                  · rw [e, ← HPP.out]; exact HQ.out
                  · exact HALL.out q (by omega)⟩⟩, by simp [intOf]; omega⟩
            · have hr : r = true := by
                rw [← h, List.all_eq_true]
                intro p hp
                obtain ⟨q, hq, rfl⟩ := List.mem_map.1 hp
                exact HALL.out q (by have := List.mem_range.1 hq; omega)
              subst hr
              go_wp2_with fail
              go_ret
              exact ⟨rfl, HBJ.out⟩
  · cases h

/-! ### screelaw8_same_p: function 9 -/
def screelaw8_same_p.l0 : Nat → List Int → List Int → Int → Option (Bool)
  | 0, _, _, _ => none
  | k + 1, x0, x1, x5 => if x5 < (x0.length : Int) then (if 0 ≤ x5 then (if x5 < (x1.length : Int) then (if (rd x0 x5) = (rd x1 x5) then (screelaw8_same_p.l0 k x0 x1 (wrap64 (x5 + 1))) else (some false)) else (none)) else (none)) else (some true)
def screelaw8_same_p.f (k : Nat) (l0 : List Int) (l1 : List Int) : Option (Bool) := if (l0.length : Int) = (l1.length : Int) then (screelaw8_same_p.l0 k l0 l1 0) else (some false)
theorem screelaw8_same_p.mono_l : ∀ k, (∀ y0 y1 y2, LeO (screelaw8_same_p.l0 k y0 y1 y2) (screelaw8_same_p.l0 (k + 1) y0 y1 y2))
  | 0 => fun _ _ _ r h => by simp [screelaw8_same_p.l0] at h
  | k + 1 => by
    have ih0 := screelaw8_same_p.mono_l k
    · intro y0 y1 y2
      unfold screelaw8_same_p.l0
      repeat' first
      | (with_reducible exact ih0 _ _ _)
      | (with_reducible exact LeO.refl _)
      | (with_reducible exact LeO.none _)
      | (with_reducible refine LeO.ite ?_ ?_)
      | (with_reducible refine LeO.bind ?_ (fun _ => ?_))
      | exact ih0 _ _ _
      | exact LeO.none _
      | refine LeO.ite ?_ ?_
      | refine LeO.bind ?_ (fun _ => ?_)
theorem screelaw8_same_p.mono : ∀ a0 a1 k, LeO (screelaw8_same_p.f k a0 a1) (screelaw8_same_p.f (k + 1) a0 a1) := by
  intro a0 a1 k
  have ih0 := screelaw8_same_p.mono_l k
  unfold screelaw8_same_p.f
  repeat' first
      | (with_reducible exact ih0 _ _ _)
      | (with_reducible exact LeO.refl _)
      | (with_reducible exact LeO.none _)
      | (with_reducible refine LeO.ite ?_ ?_)
      | (with_reducible refine LeO.bind ?_ (fun _ => ?_))
      | exact ih0 _ _ _
      | exact LeO.none _
      | refine LeO.ite ?_ ?_
      | refine LeO.bind ?_ (fun _ => ?_)
set_option maxHeartbeats 8000000 in
set_option maxRecDepth 100000 in
theorem screelaw8_same_p.calls (k : Nat) (A0 : Option Addr) (c0 : Nat) (l0 : List Int) (A1 : Option Addr) (c1 : Nat) (l1 : List Int) (r : Bool) (w : World) (hr0 : Kd.C (Kd.int .u8) w A0 l0.length l0) (hc0 : l0.length ≤ c0) (hr1 : Kd.C (Kd.int .u8) w A1 l1.length l1) (hc1 : l1.length ≤ c1) (h : screelaw8_same_p.f k l0 l1 = some r) :
    Calls Tryd.prog 9 #[.slice A0 l0.length c0, .slice A1 l1.length c1] w fun e w' => e = .returned (.bool r) ∧ Drawn0 w w' := by
  have HR0 := Aside0.mk hr0
  have HC0 := Aside0.mk hc0
  clear hr0 hc0
  have HR1 := Aside0.mk hr1
  have HC1 := Aside0.mk hc1
  clear hr1 hc1
  have H : (if (l0.length : Int) = (l1.length : Int) then (screelaw8_same_p.l0 k l0 l1 0) else (some false)) = some r := h
  clear h
  by_cases c3 : (l0.length : Int) = (l1.length : Int)
  · rw [if_pos c3] at H
    have c3b0 : ((l0.length : Int) == (l1.length : Int)) = true := beq_iff_eq.mpr c3
    have c3b1 : ((l0.length : Int) != (l1.length : Int)) = false := bne_eq_false_iff_eq.mpr c3
    have c3b2 : (l0.length == l1.length) = true := by first | simpa using c3 | (simp at c3 ⊢; omega)
    clear c3
    have H' := Aside0.mk H
    clear H
    go_enter Tryd.func9, Tryd.ntmps9
    go_wp2
    repeat (go_quiet (fail); try go_wp2)
    go_loopg [5] k (fun kq v5 w' => ∃ (x5_1 : Int), v5 = .int .i64 x5_1 ∧ Aside0 (screelaw8_same_p.l0 kq l0 l1 x5_1 = some r) ∧ Aside0 (kq ≤ k) ∧ Drawn0 w w')
    case atStart => exact ⟨(0), (by first | rfl | (simp; done) | (simp [*]; done)), H', ⟨Nat.le_refl _⟩, by repeat (first | exact Drawn0.refl _ | apply Drawn0.step)⟩
    case round =>
      clear H'
      try clear c1
      try clear p2
      try clear c3
      try clear c3b0
      try clear c3b1
      try clear c3b2
      obtain ⟨x5_1, rfl, HA, HK1, ⟨m1, rfl⟩⟩ := hrel
      cases gk with
      | zero => exact absurd HA.out (by simp [screelaw8_same_p.l0])
      | succ k1 =>
        have H := HA.out
        clear HA
        simp only [screelaw8_same_p.l0] at H
        by_cases c4 : x5_1 < (l0.length : Int)
        · rw [if_pos c4] at H
          have c4b0 : decide (x5_1 < (l0.length : Int)) = true := decide_eq_true c4
          clear c4
          by_cases c5 : 0 ≤ x5_1
          · rw [if_pos c5] at H
            have c5b0 : decide (0 ≤ x5_1) = true := decide_eq_true c5
            clear c5
            by_cases c6 : x5_1 < (l1.length : Int)
            · rw [if_pos c6] at H
              have c6b0 : decide (x5_1 < (l1.length : Int)) = true := decide_eq_true c6
              clear c6
              by_cases c7 : (rd l0 x5_1) = (rd l1 x5_1)
              · rw [if_pos c7] at H
                have c7b0 : ((rd l0 x5_1) == (rd l1 x5_1)) = true := beq_iff_eq.mpr c7
                have c7b1 : ((rd l0 x5_1) != (rd l1 x5_1)) = false := bne_eq_false_iff_eq.mpr c7
                clear c7
                have H' := Aside0.mk H
                clear H
                have p102 : 0 ≤ (x5_1 : Int) := of_decide_eq_true (by first | (with_reducible assumption) | assumption)
                have q102 : x5_1 < (l0.length : Int) := of_decide_eq_true (by first | (with_reducible assumption) | assumption)
                obtain ⟨ad102, e102, hx102_0⟩ := Kd.at_int HR0.out x5_1 p102 q102
                cases e102
                replace p102 := eq_true p102
                replace q102 := eq_true q102
                have p103 : 0 ≤ (x5_1 : Int) := of_decide_eq_true (by first | (with_reducible assumption) | assumption)
                have q103 : x5_1 < (l1.length : Int) := of_decide_eq_true (by first | (with_reducible assumption) | assumption)
                obtain ⟨ad103, e103, hx103_0⟩ := Kd.at_int HR1.out x5_1 p103 q103
                cases e103
                replace p103 := eq_true p103
                replace q103 := eq_true q103
                go_wp2
                repeat (go_quiet (fail); try go_wp2)
                go_roundg k1
                case measure => have := HK1.out; omega
                case rel => exact ⟨(wrap64 (x5_1 + 1)), (by first | rfl | (simp; done) | (simp [*]; done)), H', ⟨by have := HK1.out; omega⟩, by repeat (first | exact Drawn0.refl _ | apply Drawn0.step)⟩
              · rw [if_neg c7] at H
                have c7b0 : ((rd l0 x5_1) == (rd l1 x5_1)) = false := beq_eq_false_iff_ne.mpr c7
                have c7b1 : ((rd l0 x5_1) != (rd l1 x5_1)) = true := bne_iff_ne.mpr c7
                obtain rfl := Option.some.inj H
                have p102 : 0 ≤ (x5_1 : Int) := of_decide_eq_true (by first | (with_reducible assumption) | assumption)
                have q102 : x5_1 < (l0.length : Int) := of_decide_eq_true (by first | (with_reducible assumption) | assumption)
                obtain ⟨ad102, e102, hx102_0⟩ := Kd.at_int HR0.out x5_1 p102 q102
                cases e102
                replace p102 := eq_true p102
                replace q102 := eq_true q102
                have p103 : 0 ≤ (x5_1 : Int) := of_decide_eq_true (by first | (with_reducible assumption) | assumption)
                have q103 : x5_1 < (l1.length : Int) := of_decide_eq_true (by first | (with_reducible assumption) | assumption)
                obtain ⟨ad103, e103, hx103_0⟩ := Kd.at_int HR1.out x5_1 p103 q103
                cases e103
                replace p103 := eq_true p103
                replace q103 := eq_true q103
                go_wp2
                repeat (go_quiet (fail); try go_wp2)
                go_ret
                exact ⟨by first | rfl | (simp; done) | (simp [*]; done), by repeat (first | exact Drawn0.refl _ | apply Drawn0.step)⟩
            · rw [if_neg c6] at H
              exact absurd H (by simp)
          · rw [if_neg c5] at H
            exact absurd H (by simp)
        · rw [if_neg c4] at H
          have c4b0 : decide (x5_1 < (l0.length : Int)) = false := decide_eq_false c4
          clear c4
          obtain rfl := Option.some.inj H
          go_wp2
          repeat (go_quiet (fail); try go_wp2)
          go_ret
          exact ⟨by first | rfl | (simp; done) | (simp [*]; done), by repeat (first | exact Drawn0.refl _ | apply Drawn0.step)⟩
  · rw [if_neg c3] at H
    have c3b0 : ((l0.length : Int) == (l1.length : Int)) = false := beq_eq_false_iff_ne.mpr c3
    have c3b1 : ((l0.length : Int) != (l1.length : Int)) = true := bne_iff_ne.mpr c3
    have c3b2 : (l0.length == l1.length) = false := by first | simpa using c3 | (simp at c3 ⊢; omega)
    obtain rfl := Option.some.inj H
    go_enter Tryd.func9, Tryd.ntmps9
    go_wp2
    repeat (go_quiet (fail); try go_wp2)
    go_ret
    exact ⟨by first | rfl | (simp; done) | (simp [*]; done), by repeat (first | exact Drawn0.refl _ | apply Drawn0.step)⟩

/-! ### screelaw8_same: function 9 -/
theorem screelaw8_same_ev (l1 l2 : List Int) (hlen : l1.length = l2.length) (hm : l1.length ≤ 9223372036854775807) (d : Nat) : ∀ i : Nat, i + d = l1.length → Ev (fun k => screelaw8_same_p.l0 k l1 l2 (i : Int)) (decide (l1.drop i = l2.drop i)) := by
  induction d with
  | zero =>
    intro i hi
    refine Ev.step (f := fun _ => some true) (fun k => ?_) (by rw [List.drop_of_length_le (by omega), List.drop_of_length_le (by omega)]; exact Ev.now _)
    simp only [screelaw8_same_p.l0]
    rw [if_neg (by omega)]
  | succ d ih =>
    intro i hi
    have h1 : i < l1.length := by omega
    have h2 : i < l2.length := by omega
    have e1 : rd l1 (i : Int) = l1[i] := by simp [rd, List.getD_eq_getElem?_getD, h1]
    have e2 : rd l2 (i : Int) = l2[i] := by simp [rd, List.getD_eq_getElem?_getD, h2]
    rw [List.drop_eq_getElem_cons h1, List.drop_eq_getElem_cons h2]
    by_cases h : l1[i] = l2[i]
    · have hd : decide (l1[i] :: l1.drop (i + 1) = l2[i] :: l2.drop (i + 1)) = decide (l1.drop (i + 1) = l2.drop (i + 1)) := decide_eq_decide.2 ⟨fun e => (List.cons.inj e).2, fun e => by rw [h, e]⟩
      rw [hd]
      refine Ev.step (fun k => ?_) (ih (i + 1) (by omega))
      simp only [screelaw8_same_p.l0]
      rw [if_pos (by omega), if_pos (by omega), if_pos (by omega), e1, e2, if_pos h, show wrap64 ((i : Int) + 1) = ((i + 1 : Nat) : Int) by unfold wrap64; omega]
    · have hd : decide (l1[i] :: l1.drop (i + 1) = l2[i] :: l2.drop (i + 1)) = false := decide_eq_false (fun e => h (List.cons.inj e).1)
      rw [hd]
      refine Ev.step (f := fun _ => some false) (fun k => ?_) (Ev.now _)
      simp only [screelaw8_same_p.l0]
      rw [if_pos (by omega), if_pos (by omega), if_pos (by omega), e1, e2, if_neg h]
def screelaw8_same.f (l0 : List Int) (l1 : List Int) : Option (Bool) := if l0.length ≤ 9223372036854775807 then some (decide (l0 = l1)) else none
theorem screelaw8_same.calls (A0 : Option Addr) (c0 : Nat) (l0 : List Int) (A1 : Option Addr) (c1 : Nat) (l1 : List Int) (r : Bool) (w : World) (hr0 : Kd.C (Kd.int .u8) w A0 l0.length l0) (hc0 : l0.length ≤ c0) (hr1 : Kd.C (Kd.int .u8) w A1 l1.length l1) (hc1 : l1.length ≤ c1) (h : screelaw8_same.f l0 l1 = some r) :
    Calls Tryd.prog 9 #[.slice A0 l0.length c0, .slice A1 l1.length c1] w fun e w' => e = .returned (.bool r) ∧ Drawn0 w w' := by
  unfold screelaw8_same.f at h
  split at h
  · rename_i hh
    by_cases hlen : l0.length = l1.length
    · obtain ⟨k, hk⟩ := (screelaw8_same_ev l0 l1 hlen hh l0.length 0 (by omega)).rounds
      refine screelaw8_same_p.calls k A0 c0 l0 A1 c1 l1 r w hr0 hc0 hr1 hc1 ?_
      unfold screelaw8_same_p.f
      rw [if_pos (by omega)]
      rw [← h]
      exact hk
    · refine screelaw8_same_p.calls 0 A0 c0 l0 A1 c1 l1 r w hr0 hc0 hr1 hc1 ?_
      unfold screelaw8_same_p.f
      rw [if_neg (by omega), ← h]
      have : ¬ l0 = l1 := fun e => hlen (by rw [e])
      simp [this]
  · cases h

/-! ### screelaw8_known: function 16 -/
def screelaw8_known.f  : Option (Bool) := (bloom_Make.f (([(⟨#[97]⟩ : ByteArray)] : List ByteArray)) 10).bind fun t107 => ((screelaw8_same.f t107 (([1, 0, 1, 1, 0, 1, 1, 1, 6] : List Int))).bind fun t113 => (if t113 = true then ((bloom_May.f (([0, 0, 0, 0, 0, 0, 0, 0, 1] : List Int)) (⟨#[97]⟩ : ByteArray)).bind fun t117 => (if t117 = true then (some false) else ((bloom_May.f ([] : List Int) (⟨#[97]⟩ : ByteArray)).bind fun t118 => (some t118)))) else (some false)))
set_option maxHeartbeats 8000000 in
set_option maxRecDepth 100000 in
theorem screelaw8_known.calls  (r : Bool) (w : World) (h : screelaw8_known.f  = some r) (hT_ : GT w) :
    Calls Tryd.prog 16 #[] w fun e w' => e = .returned (.bool r) ∧ Below w.heap.size w w' := by
  have HT_ := Aside0.mk hT_
  clear hT_
  have HB := Aside0.mk (Below.refl w.heap.size w)
  have H : ((bloom_Make.f (([(⟨#[97]⟩ : ByteArray)] : List ByteArray)) 10).bind fun t107 => ((screelaw8_same.f t107 (([1, 0, 1, 1, 0, 1, 1, 1, 6] : List Int))).bind fun t113 => (if t113 = true then ((bloom_May.f (([0, 0, 0, 0, 0, 0, 0, 0, 1] : List Int)) (⟨#[97]⟩ : ByteArray)).bind fun t117 => (if t117 = true then (some false) else ((bloom_May.f ([] : List Int) (⟨#[97]⟩ : ByteArray)).bind fun t118 => (some t118)))) else (some false)))) = some r := h
  clear h
  obtain ⟨y104, hy104⟩ : ∃ y_ : List ByteArray, y_ = (([(⟨#[97]⟩ : ByteArray)] : List ByteArray)) := ⟨_, rfl⟩
  replace H : ((bloom_Make.f y104 10).bind fun t107 => ((screelaw8_same.f t107 (([1, 0, 1, 1, 0, 1, 1, 1, 6] : List Int))).bind fun t113 => (if t113 = true then ((bloom_May.f (([0, 0, 0, 0, 0, 0, 0, 0, 1] : List Int)) (⟨#[97]⟩ : ByteArray)).bind fun t117 => (if t117 = true then (some false) else ((bloom_May.f ([] : List Int) (⟨#[97]⟩ : ByteArray)).bind fun t118 => (some t118)))) else (some false)))) = some r := by first | (rw [hy104]; with_reducible exact H) | (have H2_ := (Option.bind_some _ _).symm.trans H; rw [hy104]; with_reducible exact H2_) | (have H2_ := (Option.bind_some _ _).symm.trans H; with_reducible exact H2_) | with_reducible exact H | (rw [hy104]; exact H) | exact H
  have Ny104 := Aside0.mk hy104
  clear hy104
  replace H := Option.bind_eq_some_iff.mp H
  obtain ⟨t107, A10, H⟩ := H
  replace H : ((screelaw8_same.f t107 (([1, 0, 1, 1, 0, 1, 1, 1, 6] : List Int))).bind fun t113 => (if t113 = true then ((bloom_May.f (([0, 0, 0, 0, 0, 0, 0, 0, 1] : List Int)) (⟨#[97]⟩ : ByteArray)).bind fun t117 => (if t117 = true then (some false) else ((bloom_May.f ([] : List Int) (⟨#[97]⟩ : ByteArray)).bind fun t118 => (some t118)))) else (some false))) = some r := H
  have A1 := Aside0.mk A10
  clear A10
  obtain ⟨y110, hy110⟩ : ∃ y_ : List Int, y_ = (([1, 0, 1, 1, 0, 1, 1, 1, 6] : List Int)) := ⟨_, rfl⟩
  replace H : ((screelaw8_same.f t107 y110).bind fun t113 => (if t113 = true then ((bloom_May.f (([0, 0, 0, 0, 0, 0, 0, 0, 1] : List Int)) (⟨#[97]⟩ : ByteArray)).bind fun t117 => (if t117 = true then (some false) else ((bloom_May.f ([] : List Int) (⟨#[97]⟩ : ByteArray)).bind fun t118 => (some t118)))) else (some false))) = some r := by first | (rw [hy110]; with_reducible exact H) | (have H2_ := (Option.bind_some _ _).symm.trans H; rw [hy110]; with_reducible exact H2_) | (have H2_ := (Option.bind_some _ _).symm.trans H; with_reducible exact H2_) | with_reducible exact H | (rw [hy110]; exact H) | exact H
  have Ny110 := Aside0.mk hy110
  clear hy110
  replace H := Option.bind_eq_some_iff.mp H
  obtain ⟨t113, A20, H⟩ := H
  replace H : (if t113 = true then ((bloom_May.f (([0, 0, 0, 0, 0, 0, 0, 0, 1] : List Int)) (⟨#[97]⟩ : ByteArray)).bind fun t117 => (if t117 = true then (some false) else ((bloom_May.f ([] : List Int) (⟨#[97]⟩ : ByteArray)).bind fun t118 => (some t118)))) else (some false)) = some r := H
  have A2 := Aside0.mk A20
  clear A20
  by_cases c3 : t113 = true
  · subst c3
    have H1 : ((bloom_May.f (([0, 0, 0, 0, 0, 0, 0, 0, 1] : List Int)) (⟨#[97]⟩ : ByteArray)).bind fun t117 => (if t117 = true then (some false) else ((bloom_May.f ([] : List Int) (⟨#[97]⟩ : ByteArray)).bind fun t118 => (some t118)))) = some r := by rw [if_pos rfl] at H; exact H
    clear H
    have H := H1
    clear H1
    obtain ⟨y114, hy114⟩ : ∃ y_ : List Int, y_ = (([0, 0, 0, 0, 0, 0, 0, 0, 1] : List Int)) := ⟨_, rfl⟩
    replace H : ((bloom_May.f y114 (⟨#[97]⟩ : ByteArray)).bind fun t117 => (if t117 = true then (some false) else ((bloom_May.f ([] : List Int) (⟨#[97]⟩ : ByteArray)).bind fun t118 => (some t118)))) = some r := by first | (rw [hy114]; with_reducible exact H) | (have H2_ := (Option.bind_some _ _).symm.trans H; rw [hy114]; with_reducible exact H2_) | (have H2_ := (Option.bind_some _ _).symm.trans H; with_reducible exact H2_) | with_reducible exact H | (rw [hy114]; exact H) | exact H
    have Ny114 := Aside0.mk hy114
    clear hy114
    replace H := Option.bind_eq_some_iff.mp H
    obtain ⟨t117, A40, H⟩ := H
    replace H : (if t117 = true then (some false) else ((bloom_May.f ([] : List Int) (⟨#[97]⟩ : ByteArray)).bind fun t118 => (some t118))) = some r := H
    have A4 := Aside0.mk A40
    clear A40
    by_cases c5 : t117 = true
    · subst c5
      have H1 : (some false) = some r := by rw [if_pos rfl] at H; exact H
      clear H
      have H := H1
      clear H1
      obtain rfl := Option.some.inj H
      go_enter Tryd.func16, Tryd.ntmps16
      go_wp2_with (first | ((with_reducible refine gate_dst (N := 2) rfl ?_); (try (refine gate_guard (by rfl) ?_; dsimp only)); refine Kd.R_lit Kd.string _ 9 ?hg (N := 2) ?hd (xs := ([(⟨#[97]⟩ : ByteArray)] : List ByteArray)) (inner := [.string (⟨#[97]⟩ : ByteArray)]) (ok := fun _ => True) (okp := fun _ => True) ?hr ?hp (fun _ hk => hk) trivial (Below.refl _ _) (Nat.le_refl _) (by simp) ?_; (case hd => rfl); (case hg => rfl); (case hr => first | (go_simp; done) | (go_simp; rfl)); (case hp => exact (Reps.one (show Kd.M Kd.string _ _ _ (⟨#[97]⟩ : ByteArray) [.string (⟨#[97]⟩ : ByteArray)] from rfl) (Reps.none _ _))); intro v105 w6 ho7 hb hg_ hnew_; clear hg_ hnew_; (first | rw [← Ny104.out] at ho7 | (simp only [Int.reduceToNat] at ho7; rw [← Ny104.out] at ho7)); have n0_ := Aside0.mk (Kd.R_lower ho7 (below_size (by repeat (first | (with_reducible first | exact HB.out | apply below_alloc | apply pw_below_drewN | apply below_drew1) | exact HB.out)))); have n1_ := Aside0.mk (below_step (by repeat (first | (with_reducible first | exact HB.out | apply below_alloc | apply pw_below_drewN | apply below_drew1) | exact HB.out)) hb); clear HB; have HO106 := n0_; have HB := n1_; clear n0_ n1_; clear hb ho7; obtain ⟨Ao8, co8, eo8⟩ := Kd.R_slice HO106.out; subst eo8) | ((with_reducible refine gate_callee (f := 10) rfl ?_); refine goesL_ (some 3) rfl rfl Tryd.func10 (by kernel_rfl) rfl #[.slice Ao8 y104.length co8, .int .i64 10] rfl (by (try simp only [List.map_toArray, List.map_cons, List.map_nil]); first | done | rfl | (simp only [List.length_drop, List.length_take]; rfl)) ?_; (with_reducible refine (bloom_Make.calls _ _ y104 10 t107 _ ?side1 ?side2 A1.out ?side3).mono ?_); (case side1 => repeat (first | exact (Kd.R_reads' HO106.out).2.2 | (with_reducible refine Kd.C_alloc ?_ _) | (with_reducible refine Kd.C_drewN ?_ _) | (with_reducible refine Kd.C_drew ?_))); (case side2 => exact (Kd.R_reads' HO106.out).2.1); (case side3 => first | (with_reducible exact HT_.out) | exact GT.below HT_.out (by repeat (first | (with_reducible first | exact HB.out | apply below_alloc | apply pw_below_drewN | apply below_drew1) | exact HB.out))); rintro e w9 ⟨v108, rfl, ho0, hb⟩; refine ⟨_, rfl, ?_⟩; have n0_ := Aside0.mk (Kd.R_below (by (with_reducible repeat (first | apply Kd.R_alloc | apply Kd.R_drewN | apply Kd.R_drew)); exact HO106.out) hb); have n1_ := Aside0.mk (Kd.R_lower ho0 (below_size (by repeat (first | (with_reducible first | exact HB.out | apply below_alloc | apply pw_below_drewN | apply below_drew1) | exact HB.out)))); have n2_ := Aside0.mk (below_step (by repeat (first | (with_reducible first | exact HB.out | apply below_alloc | apply pw_below_drewN | apply below_drew1) | exact HB.out)) hb); clear HO106; clear HB; have HO106 := n0_; have HO109 := n1_; have HB := n2_; clear n0_ n1_ n2_; (try clear hb); (try clear hb2); (try clear hk); (try clear hi); (try clear ho0)) | ((with_reducible refine gate_dst (N := 5) rfl ?_); (try (refine gate_guard (by rfl) ?_; dsimp only)); refine Kd.R_lit (Kd.int .u8) _ 5 ?hg (N := 5) ?hd (xs := ([1, 0, 1, 1, 0, 1, 1, 1, 6] : List Int)) (inner := [.int .u8 1, .int .u8 0, .int .u8 1, .int .u8 1, .int .u8 0, .int .u8 1, .int .u8 1, .int .u8 1, .int .u8 6]) (ok := fun _ => True) (okp := fun _ => True) ?hr ?hp (fun _ hk => hk) trivial (Below.refl _ _) (Nat.le_refl _) (by simp) ?_; (case hd => rfl); (case hg => rfl); (case hr => first | (go_simp; done) | (go_simp; rfl)); (case hp => exact (Reps.one (show Kd.M (Kd.int .u8) _ _ _ 1 [.int .u8 1] from rfl) (Reps.one (show Kd.M (Kd.int .u8) _ _ _ 0 [.int .u8 0] from rfl) (Reps.one (show Kd.M (Kd.int .u8) _ _ _ 1 [.int .u8 1] from rfl) (Reps.one (show Kd.M (Kd.int .u8) _ _ _ 1 [.int .u8 1] from rfl) (Reps.one (show Kd.M (Kd.int .u8) _ _ _ 0 [.int .u8 0] from rfl) (Reps.one (show Kd.M (Kd.int .u8) _ _ _ 1 [.int .u8 1] from rfl) (Reps.one (show Kd.M (Kd.int .u8) _ _ _ 1 [.int .u8 1] from rfl) (Reps.one (show Kd.M (Kd.int .u8) _ _ _ 1 [.int .u8 1] from rfl) (Reps.one (show Kd.M (Kd.int .u8) _ _ _ 6 [.int .u8 6] from rfl) (Reps.none _ _))))))))))); intro v111 w10 ho11 hb hg_ hnew_; clear hg_ hnew_; (first | rw [← Ny110.out] at ho11 | (simp only [Int.reduceToNat] at ho11; rw [← Ny110.out] at ho11)); have n0_ := Aside0.mk (Kd.R_below (by (with_reducible repeat (first | apply Kd.R_alloc | apply Kd.R_drewN | apply Kd.R_drew)); exact HO106.out) hb); have n1_ := Aside0.mk (Kd.R_elder' (by (with_reducible repeat (first | apply Kd.R_alloc | apply Kd.R_drewN | apply Kd.R_drew)); exact HO109.out) (Kd.R_base ho11) hb); have n2_ := Aside0.mk (Kd.R_lower (Kd.R_new' ho11 (Kd.R_lt (by (with_reducible repeat (first | apply Kd.R_alloc | apply Kd.R_drewN | apply Kd.R_drew)); exact HO109.out))) (below_size (by repeat (first | (with_reducible first | exact HB.out | apply below_alloc | apply pw_below_drewN | apply below_drew1) | exact HB.out)))); have n3_ := Aside0.mk (below_step (by repeat (first | (with_reducible first | exact HB.out | apply below_alloc | apply pw_below_drewN | apply below_drew1) | exact HB.out)) hb); clear HO106; clear HO109; clear HB; have HO106 := n0_; have HO109 := n1_; have HO112 := n2_; have HB := n3_; clear n0_ n1_ n2_ n3_; clear hb ho11; obtain ⟨Ao12, co12, eo12⟩ := Kd.R_slice HO109.out; subst eo12; obtain ⟨Ao13, co13, eo13⟩ := Kd.R_slice HO112.out; subst eo13) | ((with_reducible refine gate_callee (f := 9) rfl ?_); refine goesL_ (some 6) rfl rfl Tryd.func9 (by kernel_rfl) rfl #[.slice Ao12 t107.length co12, .slice Ao13 y110.length co13] rfl (by (try simp only [List.map_toArray, List.map_cons, List.map_nil]); first | done | rfl | (simp only [List.length_drop, List.length_take]; rfl)) ?_; (with_reducible refine (screelaw8_same.calls _ _ t107 _ _ y110 true _ ?side1 ?side2 ?side3 ?side4 A2.out).mono ?_); (case side1 => repeat (first | exact (Kd.R_reads' HO109.out).2.2 | (with_reducible refine Kd.C_alloc ?_ _) | (with_reducible refine Kd.C_drewN ?_ _) | (with_reducible refine Kd.C_drew ?_))); (case side2 => exact (Kd.R_reads' HO109.out).2.1); (case side3 => repeat (first | exact (Kd.R_reads' HO112.out).2.2 | (with_reducible refine Kd.C_alloc ?_ _) | (with_reducible refine Kd.C_drewN ?_ _) | (with_reducible refine Kd.C_drew ?_))); (case side4 => exact (Kd.R_reads' HO112.out).2.1); rintro e w' ⟨rfl, ⟨nd, rfl⟩⟩; refine ⟨_, rfl, ?_⟩) | ((with_reducible refine gate_dst (N := 8) rfl ?_); (try (refine gate_guard (by rfl) ?_; dsimp only)); refine Kd.R_lit (Kd.int .u8) _ 5 ?hg (N := 8) ?hd (xs := ([0, 0, 0, 0, 0, 0, 0, 0, 1] : List Int)) (inner := [.int .u8 0, .int .u8 0, .int .u8 0, .int .u8 0, .int .u8 0, .int .u8 0, .int .u8 0, .int .u8 0, .int .u8 1]) (ok := fun _ => True) (okp := fun _ => True) ?hr ?hp (fun _ hk => hk) trivial (Below.refl _ _) (Nat.le_refl _) (by simp) ?_; (case hd => rfl); (case hg => rfl); (case hr => first | (go_simp; done) | (go_simp; rfl)); (case hp => exact (Reps.one (show Kd.M (Kd.int .u8) _ _ _ 0 [.int .u8 0] from rfl) (Reps.one (show Kd.M (Kd.int .u8) _ _ _ 0 [.int .u8 0] from rfl) (Reps.one (show Kd.M (Kd.int .u8) _ _ _ 0 [.int .u8 0] from rfl) (Reps.one (show Kd.M (Kd.int .u8) _ _ _ 0 [.int .u8 0] from rfl) (Reps.one (show Kd.M (Kd.int .u8) _ _ _ 0 [.int .u8 0] from rfl) (Reps.one (show Kd.M (Kd.int .u8) _ _ _ 0 [.int .u8 0] from rfl) (Reps.one (show Kd.M (Kd.int .u8) _ _ _ 0 [.int .u8 0] from rfl) (Reps.one (show Kd.M (Kd.int .u8) _ _ _ 0 [.int .u8 0] from rfl) (Reps.one (show Kd.M (Kd.int .u8) _ _ _ 1 [.int .u8 1] from rfl) (Reps.none _ _))))))))))); intro v115 w14 ho15 hb hg_ hnew_; clear hg_ hnew_; (first | rw [← Ny114.out] at ho15 | (simp only [Int.reduceToNat] at ho15; rw [← Ny114.out] at ho15)); have n0_ := Aside0.mk (Kd.R_below (by (with_reducible repeat (first | apply Kd.R_alloc | apply Kd.R_drewN | apply Kd.R_drew)); exact HO106.out) hb); have n1_ := Aside0.mk (Kd.R_elder' (by (with_reducible repeat (first | apply Kd.R_alloc | apply Kd.R_drewN | apply Kd.R_drew)); exact HO109.out) (Kd.R_base ho15) hb); have n2_ := Aside0.mk (Kd.R_elder' (by (with_reducible repeat (first | apply Kd.R_alloc | apply Kd.R_drewN | apply Kd.R_drew)); exact HO112.out) (Kd.R_base ho15) hb); have n3_ := Aside0.mk (Kd.R_lower (Kd.R_new' (Kd.R_new' ho15 (Kd.R_lt (by (with_reducible repeat (first | apply Kd.R_alloc | apply Kd.R_drewN | apply Kd.R_drew)); exact HO109.out))) (Kd.R_lt (by (with_reducible repeat (first | apply Kd.R_alloc | apply Kd.R_drewN | apply Kd.R_drew)); exact HO112.out))) (below_size (by repeat (first | (with_reducible first | exact HB.out | apply below_alloc | apply pw_below_drewN | apply below_drew1) | exact HB.out)))); have n4_ := Aside0.mk (below_step (by repeat (first | (with_reducible first | exact HB.out | apply below_alloc | apply pw_below_drewN | apply below_drew1) | exact HB.out)) hb); clear HO106; clear HO109; clear HO112; clear HB; have HO106 := n0_; have HO109 := n1_; have HO112 := n2_; have HO116 := n3_; have HB := n4_; clear n0_ n1_ n2_ n3_ n4_; clear hb ho15; obtain ⟨Ao16, co16, eo16⟩ := Kd.R_slice HO116.out; subst eo16) | (go_at_call 15; (with_reducible refine (bloom_May.calls _ _ y114 (⟨#[97]⟩ : ByteArray) true _ ?side1 ?side2 A4.out ?side3).mono ?_); (case side1 => repeat (first | exact (Kd.R_reads' HO116.out).2.2 | (with_reducible refine Kd.C_alloc ?_ _) | (with_reducible refine Kd.C_drewN ?_ _) | (with_reducible refine Kd.C_drew ?_))); (case side2 => exact (Kd.R_reads' HO116.out).2.1); (case side3 => first | (with_reducible exact HT_.out) | exact GT.below HT_.out (by repeat (first | (with_reducible first | exact HB.out | apply below_alloc | apply pw_below_drewN | apply below_drew1) | exact HB.out))); rintro e w17 ⟨rfl, hb⟩; have n0_ := Aside0.mk (Kd.R_below (by (with_reducible repeat (first | apply Kd.R_alloc | apply Kd.R_drewN | apply Kd.R_drew)); exact HO106.out) hb); have n1_ := Aside0.mk (Kd.R_below (by (with_reducible repeat (first | apply Kd.R_alloc | apply Kd.R_drewN | apply Kd.R_drew)); exact HO109.out) hb); have n2_ := Aside0.mk (Kd.R_below (by (with_reducible repeat (first | apply Kd.R_alloc | apply Kd.R_drewN | apply Kd.R_drew)); exact HO112.out) hb); have n3_ := Aside0.mk (Kd.R_below (by (with_reducible repeat (first | apply Kd.R_alloc | apply Kd.R_drewN | apply Kd.R_drew)); exact HO116.out) hb); have n4_ := Aside0.mk (below_step (by repeat (first | (with_reducible first | exact HB.out | apply below_alloc | apply pw_below_drewN | apply below_drew1) | exact HB.out)) hb); clear HO106; clear HO109; clear HO112; clear HO116; clear HB; have HO106 := n0_; have HO109 := n1_; have HO112 := n2_; have HO116 := n3_; have HB := n4_; clear n0_ n1_ n2_ n3_ n4_; (try clear hb); (try clear hb2); (try clear hk); (try clear hi)))
      go_ret
      exact ⟨by first | rfl | (simp [errW_none, errW_some] <;> rfl) | (simp [*, errW_none, errW_some] <;> rfl), by repeat (first | (with_reducible first | exact HB.out | apply below_alloc | apply pw_below_drewN | apply below_drew1) | exact HB.out)⟩
    · replace c5 := Bool.eq_false_iff.mpr c5
      subst c5
      have H1 : ((bloom_May.f ([] : List Int) (⟨#[97]⟩ : ByteArray)).bind fun t118 => (some t118)) = some r := by rw [if_neg (show ¬ (false = true) by decide)] at H; exact H
      clear H
      have H := H1
      clear H1
      replace H := Option.bind_eq_some_iff.mp H
      obtain ⟨t118, A180, H⟩ := H
      replace H : (some t118) = some r := H
      have A18 := Aside0.mk A180
      clear A180
      obtain rfl := Option.some.inj H
      go_enter Tryd.func16, Tryd.ntmps16
      go_wp2_with (first | ((with_reducible refine gate_dst (N := 2) rfl ?_); (try (refine gate_guard (by rfl) ?_; dsimp only)); refine Kd.R_lit Kd.string _ 9 ?hg (N := 2) ?hd (xs := ([(⟨#[97]⟩ : ByteArray)] : List ByteArray)) (inner := [.string (⟨#[97]⟩ : ByteArray)]) (ok := fun _ => True) (okp := fun _ => True) ?hr ?hp (fun _ hk => hk) trivial (Below.refl _ _) (Nat.le_refl _) (by simp) ?_; (case hd => rfl); (case hg => rfl); (case hr => first | (go_simp; done) | (go_simp; rfl)); (case hp => exact (Reps.one (show Kd.M Kd.string _ _ _ (⟨#[97]⟩ : ByteArray) [.string (⟨#[97]⟩ : ByteArray)] from rfl) (Reps.none _ _))); intro v105 w19 ho20 hb hg_ hnew_; clear hg_ hnew_; (first | rw [← Ny104.out] at ho20 | (simp only [Int.reduceToNat] at ho20; rw [← Ny104.out] at ho20)); have n0_ := Aside0.mk (Kd.R_lower ho20 (below_size (by repeat (first | (with_reducible first | exact HB.out | apply below_alloc | apply pw_below_drewN | apply below_drew1) | exact HB.out)))); have n1_ := Aside0.mk (below_step (by repeat (first | (with_reducible first | exact HB.out | apply below_alloc | apply pw_below_drewN | apply below_drew1) | exact HB.out)) hb); clear HB; have HO106 := n0_; have HB := n1_; clear n0_ n1_; clear hb ho20; obtain ⟨Ao21, co21, eo21⟩ := Kd.R_slice HO106.out; subst eo21) | ((with_reducible refine gate_callee (f := 10) rfl ?_); refine goesL_ (some 3) rfl rfl Tryd.func10 (by kernel_rfl) rfl #[.slice Ao21 y104.length co21, .int .i64 10] rfl (by (try simp only [List.map_toArray, List.map_cons, List.map_nil]); first | done | rfl | (simp only [List.length_drop, List.length_take]; rfl)) ?_; (with_reducible refine (bloom_Make.calls _ _ y104 10 t107 _ ?side1 ?side2 A1.out ?side3).mono ?_); (case side1 => repeat (first | exact (Kd.R_reads' HO106.out).2.2 | (with_reducible refine Kd.C_alloc ?_ _) | (with_reducible refine Kd.C_drewN ?_ _) | (with_reducible refine Kd.C_drew ?_))); (case side2 => exact (Kd.R_reads' HO106.out).2.1); (case side3 => first | (with_reducible exact HT_.out) | exact GT.below HT_.out (by repeat (first | (with_reducible first | exact HB.out | apply below_alloc | apply pw_below_drewN | apply below_drew1) | exact HB.out))); rintro e w22 ⟨v108, rfl, ho0, hb⟩; refine ⟨_, rfl, ?_⟩; have n0_ := Aside0.mk (Kd.R_below (by (with_reducible repeat (first | apply Kd.R_alloc | apply Kd.R_drewN | apply Kd.R_drew)); exact HO106.out) hb); have n1_ := Aside0.mk (Kd.R_lower ho0 (below_size (by repeat (first | (with_reducible first | exact HB.out | apply below_alloc | apply pw_below_drewN | apply below_drew1) | exact HB.out)))); have n2_ := Aside0.mk (below_step (by repeat (first | (with_reducible first | exact HB.out | apply below_alloc | apply pw_below_drewN | apply below_drew1) | exact HB.out)) hb); clear HO106; clear HB; have HO106 := n0_; have HO109 := n1_; have HB := n2_; clear n0_ n1_ n2_; (try clear hb); (try clear hb2); (try clear hk); (try clear hi); (try clear ho0)) | ((with_reducible refine gate_dst (N := 5) rfl ?_); (try (refine gate_guard (by rfl) ?_; dsimp only)); refine Kd.R_lit (Kd.int .u8) _ 5 ?hg (N := 5) ?hd (xs := ([1, 0, 1, 1, 0, 1, 1, 1, 6] : List Int)) (inner := [.int .u8 1, .int .u8 0, .int .u8 1, .int .u8 1, .int .u8 0, .int .u8 1, .int .u8 1, .int .u8 1, .int .u8 6]) (ok := fun _ => True) (okp := fun _ => True) ?hr ?hp (fun _ hk => hk) trivial (Below.refl _ _) (Nat.le_refl _) (by simp) ?_; (case hd => rfl); (case hg => rfl); (case hr => first | (go_simp; done) | (go_simp; rfl)); (case hp => exact (Reps.one (show Kd.M (Kd.int .u8) _ _ _ 1 [.int .u8 1] from rfl) (Reps.one (show Kd.M (Kd.int .u8) _ _ _ 0 [.int .u8 0] from rfl) (Reps.one (show Kd.M (Kd.int .u8) _ _ _ 1 [.int .u8 1] from rfl) (Reps.one (show Kd.M (Kd.int .u8) _ _ _ 1 [.int .u8 1] from rfl) (Reps.one (show Kd.M (Kd.int .u8) _ _ _ 0 [.int .u8 0] from rfl) (Reps.one (show Kd.M (Kd.int .u8) _ _ _ 1 [.int .u8 1] from rfl) (Reps.one (show Kd.M (Kd.int .u8) _ _ _ 1 [.int .u8 1] from rfl) (Reps.one (show Kd.M (Kd.int .u8) _ _ _ 1 [.int .u8 1] from rfl) (Reps.one (show Kd.M (Kd.int .u8) _ _ _ 6 [.int .u8 6] from rfl) (Reps.none _ _))))))))))); intro v111 w23 ho24 hb hg_ hnew_; clear hg_ hnew_; (first | rw [← Ny110.out] at ho24 | (simp only [Int.reduceToNat] at ho24; rw [← Ny110.out] at ho24)); have n0_ := Aside0.mk (Kd.R_below (by (with_reducible repeat (first | apply Kd.R_alloc | apply Kd.R_drewN | apply Kd.R_drew)); exact HO106.out) hb); have n1_ := Aside0.mk (Kd.R_elder' (by (with_reducible repeat (first | apply Kd.R_alloc | apply Kd.R_drewN | apply Kd.R_drew)); exact HO109.out) (Kd.R_base ho24) hb); have n2_ := Aside0.mk (Kd.R_lower (Kd.R_new' ho24 (Kd.R_lt (by (with_reducible repeat (first | apply Kd.R_alloc | apply Kd.R_drewN | apply Kd.R_drew)); exact HO109.out))) (below_size (by repeat (first | (with_reducible first | exact HB.out | apply below_alloc | apply pw_below_drewN | apply below_drew1) | exact HB.out)))); have n3_ := Aside0.mk (below_step (by repeat (first | (with_reducible first | exact HB.out | apply below_alloc | apply pw_below_drewN | apply below_drew1) | exact HB.out)) hb); clear HO106; clear HO109; clear HB; have HO106 := n0_; have HO109 := n1_; have HO112 := n2_; have HB := n3_; clear n0_ n1_ n2_ n3_; clear hb ho24; obtain ⟨Ao25, co25, eo25⟩ := Kd.R_slice HO109.out; subst eo25; obtain ⟨Ao26, co26, eo26⟩ := Kd.R_slice HO112.out; subst eo26) | ((with_reducible refine gate_callee (f := 9) rfl ?_); refine goesL_ (some 6) rfl rfl Tryd.func9 (by kernel_rfl) rfl #[.slice Ao25 t107.length co25, .slice Ao26 y110.length co26] rfl (by (try simp only [List.map_toArray, List.map_cons, List.map_nil]); first | done | rfl | (simp only [List.length_drop, List.length_take]; rfl)) ?_; (with_reducible refine (screelaw8_same.calls _ _ t107 _ _ y110 true _ ?side1 ?side2 ?side3 ?side4 A2.out).mono ?_); (case side1 => repeat (first | exact (Kd.R_reads' HO109.out).2.2 | (with_reducible refine Kd.C_alloc ?_ _) | (with_reducible refine Kd.C_drewN ?_ _) | (with_reducible refine Kd.C_drew ?_))); (case side2 => exact (Kd.R_reads' HO109.out).2.1); (case side3 => repeat (first | exact (Kd.R_reads' HO112.out).2.2 | (with_reducible refine Kd.C_alloc ?_ _) | (with_reducible refine Kd.C_drewN ?_ _) | (with_reducible refine Kd.C_drew ?_))); (case side4 => exact (Kd.R_reads' HO112.out).2.1); rintro e w' ⟨rfl, ⟨nd, rfl⟩⟩; refine ⟨_, rfl, ?_⟩) | ((with_reducible refine gate_dst (N := 8) rfl ?_); (try (refine gate_guard (by rfl) ?_; dsimp only)); refine Kd.R_lit (Kd.int .u8) _ 5 ?hg (N := 8) ?hd (xs := ([0, 0, 0, 0, 0, 0, 0, 0, 1] : List Int)) (inner := [.int .u8 0, .int .u8 0, .int .u8 0, .int .u8 0, .int .u8 0, .int .u8 0, .int .u8 0, .int .u8 0, .int .u8 1]) (ok := fun _ => True) (okp := fun _ => True) ?hr ?hp (fun _ hk => hk) trivial (Below.refl _ _) (Nat.le_refl _) (by simp) ?_; (case hd => rfl); (case hg => rfl); (case hr => first | (go_simp; done) | (go_simp; rfl)); (case hp => exact (Reps.one (show Kd.M (Kd.int .u8) _ _ _ 0 [.int .u8 0] from rfl) (Reps.one (show Kd.M (Kd.int .u8) _ _ _ 0 [.int .u8 0] from rfl) (Reps.one (show Kd.M (Kd.int .u8) _ _ _ 0 [.int .u8 0] from rfl) (Reps.one (show Kd.M (Kd.int .u8) _ _ _ 0 [.int .u8 0] from rfl) (Reps.one (show Kd.M (Kd.int .u8) _ _ _ 0 [.int .u8 0] from rfl) (Reps.one (show Kd.M (Kd.int .u8) _ _ _ 0 [.int .u8 0] from rfl) (Reps.one (show Kd.M (Kd.int .u8) _ _ _ 0 [.int .u8 0] from rfl) (Reps.one (show Kd.M (Kd.int .u8) _ _ _ 0 [.int .u8 0] from rfl) (Reps.one (show Kd.M (Kd.int .u8) _ _ _ 1 [.int .u8 1] from rfl) (Reps.none _ _))))))))))); intro v115 w27 ho28 hb hg_ hnew_; clear hg_ hnew_; (first | rw [← Ny114.out] at ho28 | (simp only [Int.reduceToNat] at ho28; rw [← Ny114.out] at ho28)); have n0_ := Aside0.mk (Kd.R_below (by (with_reducible repeat (first | apply Kd.R_alloc | apply Kd.R_drewN | apply Kd.R_drew)); exact HO106.out) hb); have n1_ := Aside0.mk (Kd.R_elder' (by (with_reducible repeat (first | apply Kd.R_alloc | apply Kd.R_drewN | apply Kd.R_drew)); exact HO109.out) (Kd.R_base ho28) hb); have n2_ := Aside0.mk (Kd.R_elder' (by (with_reducible repeat (first | apply Kd.R_alloc | apply Kd.R_drewN | apply Kd.R_drew)); exact HO112.out) (Kd.R_base ho28) hb); have n3_ := Aside0.mk (Kd.R_lower (Kd.R_new' (Kd.R_new' ho28 (Kd.R_lt (by (with_reducible repeat (first | apply Kd.R_alloc | apply Kd.R_drewN | apply Kd.R_drew)); exact HO109.out))) (Kd.R_lt (by (with_reducible repeat (first | apply Kd.R_alloc | apply Kd.R_drewN | apply Kd.R_drew)); exact HO112.out))) (below_size (by repeat (first | (with_reducible first | exact HB.out | apply below_alloc | apply pw_below_drewN | apply below_drew1) | exact HB.out)))); have n4_ := Aside0.mk (below_step (by repeat (first | (with_reducible first | exact HB.out | apply below_alloc | apply pw_below_drewN | apply below_drew1) | exact HB.out)) hb); clear HO106; clear HO109; clear HO112; clear HB; have HO106 := n0_; have HO109 := n1_; have HO112 := n2_; have HO116 := n3_; have HB := n4_; clear n0_ n1_ n2_ n3_ n4_; clear hb ho28; obtain ⟨Ao29, co29, eo29⟩ := Kd.R_slice HO116.out; subst eo29) | (go_at_call 15; (with_reducible refine (bloom_May.calls _ _ y114 (⟨#[97]⟩ : ByteArray) false _ ?side1 ?side2 A4.out ?side3).mono ?_); (case side1 => repeat (first | exact (Kd.R_reads' HO116.out).2.2 | (with_reducible refine Kd.C_alloc ?_ _) | (with_reducible refine Kd.C_drewN ?_ _) | (with_reducible refine Kd.C_drew ?_))); (case side2 => exact (Kd.R_reads' HO116.out).2.1); (case side3 => first | (with_reducible exact HT_.out) | exact GT.below HT_.out (by repeat (first | (with_reducible first | exact HB.out | apply below_alloc | apply pw_below_drewN | apply below_drew1) | exact HB.out))); rintro e w30 ⟨rfl, hb⟩; have n0_ := Aside0.mk (Kd.R_below (by (with_reducible repeat (first | apply Kd.R_alloc | apply Kd.R_drewN | apply Kd.R_drew)); exact HO106.out) hb); have n1_ := Aside0.mk (Kd.R_below (by (with_reducible repeat (first | apply Kd.R_alloc | apply Kd.R_drewN | apply Kd.R_drew)); exact HO109.out) hb); have n2_ := Aside0.mk (Kd.R_below (by (with_reducible repeat (first | apply Kd.R_alloc | apply Kd.R_drewN | apply Kd.R_drew)); exact HO112.out) hb); have n3_ := Aside0.mk (Kd.R_below (by (with_reducible repeat (first | apply Kd.R_alloc | apply Kd.R_drewN | apply Kd.R_drew)); exact HO116.out) hb); have n4_ := Aside0.mk (below_step (by repeat (first | (with_reducible first | exact HB.out | apply below_alloc | apply pw_below_drewN | apply below_drew1) | exact HB.out)) hb); clear HO106; clear HO109; clear HO112; clear HO116; clear HB; have HO106 := n0_; have HO109 := n1_; have HO112 := n2_; have HO116 := n3_; have HB := n4_; clear n0_ n1_ n2_ n3_ n4_; (try clear hb); (try clear hb2); (try clear hk); (try clear hi)) | (go_at_call 15; (refine (bloom_May.calls _ _ ([] : List Int) (⟨#[97]⟩ : ByteArray) t118 _ ?side1 ?side2 A18.out ?side3).mono ?_); (case side1 => exact Kd.C_nil _ _); (case side2 => exact Nat.le_refl _); (case side3 => first | (with_reducible exact HT_.out) | exact GT.below HT_.out (by repeat (first | (with_reducible first | exact HB.out | apply below_alloc | apply pw_below_drewN | apply below_drew1) | exact HB.out))); rintro e w31 ⟨rfl, hb⟩; have n0_ := Aside0.mk (Kd.R_below (by (with_reducible repeat (first | apply Kd.R_alloc | apply Kd.R_drewN | apply Kd.R_drew)); exact HO106.out) hb); have n1_ := Aside0.mk (Kd.R_below (by (with_reducible repeat (first | apply Kd.R_alloc | apply Kd.R_drewN | apply Kd.R_drew)); exact HO109.out) hb); have n2_ := Aside0.mk (Kd.R_below (by (with_reducible repeat (first | apply Kd.R_alloc | apply Kd.R_drewN | apply Kd.R_drew)); exact HO112.out) hb); have n3_ := Aside0.mk (Kd.R_below (by (with_reducible repeat (first | apply Kd.R_alloc | apply Kd.R_drewN | apply Kd.R_drew)); exact HO116.out) hb); have n4_ := Aside0.mk (below_step (by repeat (first | (with_reducible first | exact HB.out | apply below_alloc | apply pw_below_drewN | apply below_drew1) | exact HB.out)) hb); clear HO106; clear HO109; clear HO112; clear HO116; clear HB; have HO106 := n0_; have HO109 := n1_; have HO112 := n2_; have HO116 := n3_; have HB := n4_; clear n0_ n1_ n2_ n3_ n4_; (try clear hb); (try clear hb2); (try clear hk); (try clear hi)))
      go_ret
      exact ⟨by first | rfl | (simp [errW_none, errW_some] <;> rfl) | (simp [*, errW_none, errW_some] <;> rfl), by repeat (first | (with_reducible first | exact HB.out | apply below_alloc | apply pw_below_drewN | apply below_drew1) | exact HB.out)⟩
  · replace c3 := Bool.eq_false_iff.mpr c3
    subst c3
    have H1 : (some false) = some r := by rw [if_neg (show ¬ (false = true) by decide)] at H; exact H
    clear H
    have H := H1
    clear H1
    obtain rfl := Option.some.inj H
    go_enter Tryd.func16, Tryd.ntmps16
    go_wp2_with (first | ((with_reducible refine gate_dst (N := 2) rfl ?_); (try (refine gate_guard (by rfl) ?_; dsimp only)); refine Kd.R_lit Kd.string _ 9 ?hg (N := 2) ?hd (xs := ([(⟨#[97]⟩ : ByteArray)] : List ByteArray)) (inner := [.string (⟨#[97]⟩ : ByteArray)]) (ok := fun _ => True) (okp := fun _ => True) ?hr ?hp (fun _ hk => hk) trivial (Below.refl _ _) (Nat.le_refl _) (by simp) ?_; (case hd => rfl); (case hg => rfl); (case hr => first | (go_simp; done) | (go_simp; rfl)); (case hp => exact (Reps.one (show Kd.M Kd.string _ _ _ (⟨#[97]⟩ : ByteArray) [.string (⟨#[97]⟩ : ByteArray)] from rfl) (Reps.none _ _))); intro v105 w32 ho33 hb hg_ hnew_; clear hg_ hnew_; (first | rw [← Ny104.out] at ho33 | (simp only [Int.reduceToNat] at ho33; rw [← Ny104.out] at ho33)); have n0_ := Aside0.mk (Kd.R_lower ho33 (below_size (by repeat (first | (with_reducible first | exact HB.out | apply below_alloc | apply pw_below_drewN | apply below_drew1) | exact HB.out)))); have n1_ := Aside0.mk (below_step (by repeat (first | (with_reducible first | exact HB.out | apply below_alloc | apply pw_below_drewN | apply below_drew1) | exact HB.out)) hb); clear HB; have HO106 := n0_; have HB := n1_; clear n0_ n1_; clear hb ho33; obtain ⟨Ao34, co34, eo34⟩ := Kd.R_slice HO106.out; subst eo34) | ((with_reducible refine gate_callee (f := 10) rfl ?_); refine goesL_ (some 3) rfl rfl Tryd.func10 (by kernel_rfl) rfl #[.slice Ao34 y104.length co34, .int .i64 10] rfl (by (try simp only [List.map_toArray, List.map_cons, List.map_nil]); first | done | rfl | (simp only [List.length_drop, List.length_take]; rfl)) ?_; (with_reducible refine (bloom_Make.calls _ _ y104 10 t107 _ ?side1 ?side2 A1.out ?side3).mono ?_); (case side1 => repeat (first | exact (Kd.R_reads' HO106.out).2.2 | (with_reducible refine Kd.C_alloc ?_ _) | (with_reducible refine Kd.C_drewN ?_ _) | (with_reducible refine Kd.C_drew ?_))); (case side2 => exact (Kd.R_reads' HO106.out).2.1); (case side3 => first | (with_reducible exact HT_.out) | exact GT.below HT_.out (by repeat (first | (with_reducible first | exact HB.out | apply below_alloc | apply pw_below_drewN | apply below_drew1) | exact HB.out))); rintro e w35 ⟨v108, rfl, ho0, hb⟩; refine ⟨_, rfl, ?_⟩; have n0_ := Aside0.mk (Kd.R_below (by (with_reducible repeat (first | apply Kd.R_alloc | apply Kd.R_drewN | apply Kd.R_drew)); exact HO106.out) hb); have n1_ := Aside0.mk (Kd.R_lower ho0 (below_size (by repeat (first | (with_reducible first | exact HB.out | apply below_alloc | apply pw_below_drewN | apply below_drew1) | exact HB.out)))); have n2_ := Aside0.mk (below_step (by repeat (first | (with_reducible first | exact HB.out | apply below_alloc | apply pw_below_drewN | apply below_drew1) | exact HB.out)) hb); clear HO106; clear HB; have HO106 := n0_; have HO109 := n1_; have HB := n2_; clear n0_ n1_ n2_; (try clear hb); (try clear hb2); (try clear hk); (try clear hi); (try clear ho0)) | ((with_reducible refine gate_dst (N := 5) rfl ?_); (try (refine gate_guard (by rfl) ?_; dsimp only)); refine Kd.R_lit (Kd.int .u8) _ 5 ?hg (N := 5) ?hd (xs := ([1, 0, 1, 1, 0, 1, 1, 1, 6] : List Int)) (inner := [.int .u8 1, .int .u8 0, .int .u8 1, .int .u8 1, .int .u8 0, .int .u8 1, .int .u8 1, .int .u8 1, .int .u8 6]) (ok := fun _ => True) (okp := fun _ => True) ?hr ?hp (fun _ hk => hk) trivial (Below.refl _ _) (Nat.le_refl _) (by simp) ?_; (case hd => rfl); (case hg => rfl); (case hr => first | (go_simp; done) | (go_simp; rfl)); (case hp => exact (Reps.one (show Kd.M (Kd.int .u8) _ _ _ 1 [.int .u8 1] from rfl) (Reps.one (show Kd.M (Kd.int .u8) _ _ _ 0 [.int .u8 0] from rfl) (Reps.one (show Kd.M (Kd.int .u8) _ _ _ 1 [.int .u8 1] from rfl) (Reps.one (show Kd.M (Kd.int .u8) _ _ _ 1 [.int .u8 1] from rfl) (Reps.one (show Kd.M (Kd.int .u8) _ _ _ 0 [.int .u8 0] from rfl) (Reps.one (show Kd.M (Kd.int .u8) _ _ _ 1 [.int .u8 1] from rfl) (Reps.one (show Kd.M (Kd.int .u8) _ _ _ 1 [.int .u8 1] from rfl) (Reps.one (show Kd.M (Kd.int .u8) _ _ _ 1 [.int .u8 1] from rfl) (Reps.one (show Kd.M (Kd.int .u8) _ _ _ 6 [.int .u8 6] from rfl) (Reps.none _ _))))))))))); intro v111 w36 ho37 hb hg_ hnew_; clear hg_ hnew_; (first | rw [← Ny110.out] at ho37 | (simp only [Int.reduceToNat] at ho37; rw [← Ny110.out] at ho37)); have n0_ := Aside0.mk (Kd.R_below (by (with_reducible repeat (first | apply Kd.R_alloc | apply Kd.R_drewN | apply Kd.R_drew)); exact HO106.out) hb); have n1_ := Aside0.mk (Kd.R_elder' (by (with_reducible repeat (first | apply Kd.R_alloc | apply Kd.R_drewN | apply Kd.R_drew)); exact HO109.out) (Kd.R_base ho37) hb); have n2_ := Aside0.mk (Kd.R_lower (Kd.R_new' ho37 (Kd.R_lt (by (with_reducible repeat (first | apply Kd.R_alloc | apply Kd.R_drewN | apply Kd.R_drew)); exact HO109.out))) (below_size (by repeat (first | (with_reducible first | exact HB.out | apply below_alloc | apply pw_below_drewN | apply below_drew1) | exact HB.out)))); have n3_ := Aside0.mk (below_step (by repeat (first | (with_reducible first | exact HB.out | apply below_alloc | apply pw_below_drewN | apply below_drew1) | exact HB.out)) hb); clear HO106; clear HO109; clear HB; have HO106 := n0_; have HO109 := n1_; have HO112 := n2_; have HB := n3_; clear n0_ n1_ n2_ n3_; clear hb ho37; obtain ⟨Ao38, co38, eo38⟩ := Kd.R_slice HO109.out; subst eo38; obtain ⟨Ao39, co39, eo39⟩ := Kd.R_slice HO112.out; subst eo39) | ((with_reducible refine gate_callee (f := 9) rfl ?_); refine goesL_ (some 6) rfl rfl Tryd.func9 (by kernel_rfl) rfl #[.slice Ao38 t107.length co38, .slice Ao39 y110.length co39] rfl (by (try simp only [List.map_toArray, List.map_cons, List.map_nil]); first | done | rfl | (simp only [List.length_drop, List.length_take]; rfl)) ?_; (with_reducible refine (screelaw8_same.calls _ _ t107 _ _ y110 false _ ?side1 ?side2 ?side3 ?side4 A2.out).mono ?_); (case side1 => repeat (first | exact (Kd.R_reads' HO109.out).2.2 | (with_reducible refine Kd.C_alloc ?_ _) | (with_reducible refine Kd.C_drewN ?_ _) | (with_reducible refine Kd.C_drew ?_))); (case side2 => exact (Kd.R_reads' HO109.out).2.1); (case side3 => repeat (first | exact (Kd.R_reads' HO112.out).2.2 | (with_reducible refine Kd.C_alloc ?_ _) | (with_reducible refine Kd.C_drewN ?_ _) | (with_reducible refine Kd.C_drew ?_))); (case side4 => exact (Kd.R_reads' HO112.out).2.1); rintro e w' ⟨rfl, ⟨nd, rfl⟩⟩; refine ⟨_, rfl, ?_⟩))
    go_ret
    exact ⟨by first | rfl | (simp [errW_none, errW_some] <;> rfl) | (simp [*, errW_none, errW_some] <;> rfl), by repeat (first | (with_reducible first | exact HB.out | apply below_alloc | apply pw_below_drewN | apply below_drew1) | exact HB.out)⟩

/-! ### screelaw8_some: function 17 -/
def screelaw8_some.f (l0 : List ByteArray) : Option (List ByteArray) := if 0 ≤ (mn (l0.length : Int) 4000) then (if (mn (l0.length : Int) 4000) ≤ (l0.length : Int) then (some (l0.take ((mn (l0.length : Int) 4000) : Int).toNat)) else (none)) else (none)
set_option maxHeartbeats 8000000 in
set_option maxRecDepth 100000 in
theorem screelaw8_some.calls (P0_ : Nat → Prop) (u9000_ : Value) (l0 : List ByteArray) (r : List ByteArray) (w0 w : World) (hB : Below w0.heap.size w0 w) (ho0 : Kd.R Kd.string 9 w w0.heap.size P0_ u9000_ l0) (h : screelaw8_some.f l0 = some r) :
    Calls Tryd.prog 17 #[u9000_] w fun e w' => ∃ v0_ : Value, e = .returned (v0_) ∧ Kd.R Kd.string 9 w' w0.heap.size (fun k_ => (P0_ k_ ∨ w.heap.size ≤ k_)) v0_ r ∧ Below w0.heap.size w0 w' ∧ Kept w w' (fun k_ => P0_ k_) := by
  have HO0 := Aside0.mk (show Kd.R Kd.string 9 w w0.heap.size (fun k_ => (P0_ k_ ∨ w.heap.size ≤ k_)) u9000_ l0 from Kd.R_mono ho0 (fun k_ hk => (.inl hk)))
  have HK := Aside0.mk (Kept.refl w (fun k_ => P0_ k_))
  have HW0 := Aside0.mk hB.size
  have HB := Aside0.mk hB
  clear hB
  have H : (if 0 ≤ (mn (l0.length : Int) 4000) then (if (mn (l0.length : Int) 4000) ≤ (l0.length : Int) then (some (l0.take ((mn (l0.length : Int) 4000) : Int).toNat)) else (none)) else (none)) = some r := h
  clear h
  obtain ⟨ji2, hji2⟩ : ∃ j_ : Int, (mn (l0.length : Int) 4000) = j_ := ⟨_, rfl⟩
  replace H : (if 0 ≤ (ji2) then (if (ji2) ≤ (l0.length : Int) then (some (l0.take ((ji2) : Int).toNat)) else (none)) else (none)) = some r := by first | (rw [hji2] at H; exact H) | (simp only [hji2] at H ⊢; exact H)
  (try (have hji2h : ji2 ≤ 4000 := by (rw [← hji2]; unfold mn; (repeat' split) <;> omega)))
  (try (have hji2g : ji2 ≤ 64 := by omega))
  (try (have hji2l : 0 ≤ ji2 := by (rw [← hji2]; unfold mn; (repeat' split) <;> omega)))
  (try (have hji2m : 0 ≤ ji2 := by omega))
  have hji2_ : (if 4000 < (l0.length : Int) then 4000 else (l0.length : Int)) = ji2 := hji2
  by_cases c3 : 0 ≤ (ji2)
  · rw [if_pos c3] at H
    have c3b0 := eq_true c3
    have c3b1 : decide (0 ≤ (ji2)) = true := decide_eq_true c3
    clear c3
    by_cases c4 : (ji2) ≤ (l0.length : Int)
    · rw [if_pos c4] at H
      have c4b0 := eq_true c4
      have c4b1 : decide ((ji2) ≤ (l0.length : Int)) = true := decide_eq_true c4
      clear c4
      obtain ⟨y119, hy119⟩ : ∃ y_ : List ByteArray, y_ = (l0.take ((ji2) : Int).toNat) := ⟨_, rfl⟩
      replace H : (some y119) = some r := by first | (rw [hy119]; with_reducible exact H) | (have H2_ := (Option.bind_some _ _).symm.trans H; rw [hy119]; with_reducible exact H2_) | (have H2_ := (Option.bind_some _ _).symm.trans H; with_reducible exact H2_) | with_reducible exact H | (rw [hy119]; exact H) | exact H
      have Ny119 := Aside0.mk hy119
      clear hy119
      obtain rfl := Option.some.inj H
      obtain ⟨Ao5, co5, eo5⟩ := Kd.R_slice HO0.out
      subst eo5
      have q6 : ((ji2) : Int) ≤ ((l0.length : Int) : Int) := of_decide_eq_true (by first | (with_reducible assumption) | assumption)
      obtain ⟨i06, hi06, _, hsz6, _⟩ := info_parts info9
      have hcut6 := cut_to (P := Tryd.prog) 22 9 .i64 Tryd.underlying22 hi06 Ao5 l0.length co5 (ji2) (of_decide_eq_true (by first | (with_reducible assumption) | assumption)) q6 (Kd.R_reads' HO0.out).2.1
      have hr6 := Kd.R_take (m := ((ji2) : Int).toNat) HO0.out (by omega)
      have hy6 : y119.length = ((ji2) : Int).toNat := (by rw [Ny119.out, List.length_take]; omega)
      rw [← Ny119.out] at hr6
      rw [← hy6] at hr6 hcut6
      clear hy6 hi06 hsz6 HO0
      have HO121 := Aside0.mk hr6
      clear hr6
      replace q6 := eq_true q6
      go_enter Tryd.func17, Tryd.ntmps17
      go_wp2
      go_ret
      exact ⟨_, by first | rfl | (simp [errW_none, errW_some] <;> rfl) | (simp only [← hji2]; first | rfl | (simp [errW_none, errW_some] <;> rfl)) | (simp [*, errW_none, errW_some] <;> rfl), by (with_reducible repeat (first | apply Kd.R_alloc | apply Kd.R_drewN | apply Kd.R_drew)); exact HO121.out, by repeat (first | (with_reducible first | exact HB.out | apply below_alloc | apply pw_below_drewN | apply below_drew1) | exact HB.out), by repeat (first | (with_reducible first | exact HK.out | apply Kept.alloc | apply Kept.drewN | apply Kept.drew) | exact HK.out)⟩
    · rw [if_neg c4] at H
      exact absurd H (by simp)
  · rw [if_neg c3] at H
    exact absurd H (by simp)

-- NOT PRINTED: function 5 (screelaw8_BloomHolds)

-- NOT PRINTED: function 6 (screelaw8_BloomOrder)

/-! ### screeroom_lot: function 40 -/
def screeroom_lot.f (a0 : Int) : Option (Int) := if (Int.tmod a0 2) = 0 then (some (-7701)) else (some (-7702))
set_option maxHeartbeats 8000000 in
set_option maxRecDepth 100000 in
theorem screeroom_lot.calls (a0 : Int) (r : Int) (w : World) (h : screeroom_lot.f a0 = some r) :
    Calls Tryd.prog 40 #[.int .i64 a0] w fun e w' => e = .returned (.int .i64 r) ∧ Drawn0 w w' := by
  have H : (if (Int.tmod a0 2) = 0 then (some (-7701)) else (some (-7702))) = some r := h
  clear h
  by_cases c2 : (Int.tmod a0 2) = 0
  · rw [if_pos c2] at H
    have c2b0 : ((Int.tmod a0 2) == 0) = true := beq_iff_eq.mpr c2
    have c2b1 : ((Int.tmod a0 2) != 0) = false := bne_eq_false_iff_eq.mpr c2
    clear c2
    obtain rfl := Option.some.inj H
    go_enter Tryd.func40, Tryd.ntmps40
    go_wp2
    go_ret
    exact ⟨by first | rfl | (simp; done) | (simp [*]; done), by repeat (first | exact Drawn0.refl _ | apply Drawn0.step)⟩
  · rw [if_neg c2] at H
    have c2b0 : ((Int.tmod a0 2) == 0) = false := beq_eq_false_iff_ne.mpr c2
    have c2b1 : ((Int.tmod a0 2) != 0) = true := bne_iff_ne.mpr c2
    obtain rfl := Option.some.inj H
    go_enter Tryd.func40, Tryd.ntmps40
    go_wp2
    go_ret
    exact ⟨by first | rfl | (simp; done) | (simp [*]; done), by repeat (first | exact Drawn0.refl _ | apply Drawn0.step)⟩

-- NOT PRINTED: function 22 (screeroom_Room_holdBytes)

-- NOT PRINTED: function 23 (screeroom_Room_holdInts)

-- NOT PRINTED: function 24 (screeroom_Room_holdNums)

/-! ### screeroom_word: function 37 -/
def screeroom_word.f (a0 : Int) : Option (ByteArray) := if (Int.tmod a0 2) = 0 then (some (⟨#[60, 111, 110, 101, 62]⟩ : ByteArray)) else (some (⟨#[60, 116, 119, 111, 62]⟩ : ByteArray))
set_option maxHeartbeats 8000000 in
set_option maxRecDepth 100000 in
theorem screeroom_word.calls (a0 : Int) (r : ByteArray) (w : World) (h : screeroom_word.f a0 = some r) :
    Calls Tryd.prog 37 #[.int .i64 a0] w fun e w' => e = .returned (.string r) ∧ Drawn0 w w' := by
  have H : (if (Int.tmod a0 2) = 0 then (some (⟨#[60, 111, 110, 101, 62]⟩ : ByteArray)) else (some (⟨#[60, 116, 119, 111, 62]⟩ : ByteArray))) = some r := h
  clear h
  by_cases c2 : (Int.tmod a0 2) = 0
  · rw [if_pos c2] at H
    have c2b0 : ((Int.tmod a0 2) == 0) = true := beq_iff_eq.mpr c2
    have c2b1 : ((Int.tmod a0 2) != 0) = false := bne_eq_false_iff_eq.mpr c2
    clear c2
    obtain rfl := Option.some.inj H
    go_enter Tryd.func37, Tryd.ntmps37
    go_wp2
    go_ret
    exact ⟨by first | rfl | (simp; done) | (simp [*]; done), by repeat (first | exact Drawn0.refl _ | apply Drawn0.step)⟩
  · rw [if_neg c2] at H
    have c2b0 : ((Int.tmod a0 2) == 0) = false := beq_eq_false_iff_ne.mpr c2
    have c2b1 : ((Int.tmod a0 2) != 0) = true := bne_iff_ne.mpr c2
    obtain rfl := Option.some.inj H
    go_enter Tryd.func37, Tryd.ntmps37
    go_wp2
    go_ret
    exact ⟨by first | rfl | (simp; done) | (simp [*]; done), by repeat (first | exact Drawn0.refl _ | apply Drawn0.step)⟩

-- NOT PRINTED: function 25 (screeroom_Room_holdTexts)

-- NOT PRINTED: function 26 (screeroom_Room_holdEntries)

-- NOT PRINTED: function 27 (screeroom_Room_holdPairs)

-- NOT PRINTED: function 28 (screeroom_Room_holdWrites)

-- NOT PRINTED: function 29 (screeroom_Room_holdTables)

-- NOT PRINTED: function 30 (screeroom_Room_holdPlaces)

-- NOT PRINTED: function 31 (screeroom_Room_holdPlaceds)

-- NOT PRINTED: function 32 (screeroom_Room_holdChunks)

-- NOT PRINTED: function 33 (screeroom_Room_holdGroups)

-- NOT PRINTED: function 34 (screeroom_Room_holdFiles)

-- NOT PRINTED: function 35 (screeroom_Room_holdSteps)

-- NOT PRINTED: function 12 (screeroom_Room_Hold)

-- NOT PRINTED: function 36 (screeroom_Room_layBytes)

-- NOT PRINTED: function 13 (screeroom_Room_Bytes)

end Go.Proofs.YtlcohooognjmaaaDoor.QBl
