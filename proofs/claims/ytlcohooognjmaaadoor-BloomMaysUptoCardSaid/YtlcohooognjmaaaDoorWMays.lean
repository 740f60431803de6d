/- The walk of BloomMays (this claim's own lemmas). -/
import Derived.Test.YtlcohooognjmaaaDoorBlWR
namespace Go.Proofs.YtlcohooognjmaaaDoor.BloomMays
open Go.RowKit Go.Proofs.YtlcohooognjmaaaDoorW.PrintWords Go.Proofs.YtlcohooognjmaaaDoor.Own Go.Proofs.YtlcohooognjmaaaDoor.BlW Go.Proofs.YtlcohooognjmaaaDoor.G Go.Proofs.YtlcohooognjmaaaDoor.Bl
set_option linter.unusedVariables false
theorem u8_xor_range {x y : Int} (hx : 0 ≤ x ∧ x ≤ 255) (hy : 0 ≤ y ∧ y ≤ 255) : 0 ≤ bits .xor .u8 x y ∧ bits .xor .u8 x y ≤ 255 := by
  obtain ⟨a, rfl⟩ := Int.eq_ofNat_of_zero_le hx.1
  obtain ⟨b, rfl⟩ := Int.eq_ofNat_of_zero_le hy.1
  rw [u8_xor_nat a b (by omega) (by omega)]
  have := Nat.xor_lt_two_pow (x := a) (y := b) (n := 8) (by omega) (by omega)
  constructor <;> omega
theorem Bytes_set {l : List Int} (h : Bytes l) (k : Nat) {x : Int} (hx : 0 ≤ x ∧ x ≤ 255) : Bytes (l.set k x) := fun y hy => by
  rcases List.mem_or_eq_of_mem_set hy with h1 | rfl
  · exact h y h1
  · exact hx
theorem bytes_rd' {l : List Int} (hl : Bytes l) (k : Nat) (h : k < l.length) : 0 ≤ rd l k ∧ rd l k ≤ 255 := by
  simp only [rd, Int.toNat_natCast, List.getD_eq_getElem?_getD, List.getElem?_eq_getElem h, Option.getD_some]
  exact hl _ (List.getElem_mem h)
set_option maxHeartbeats 4000000 in
set_option maxRecDepth 100000 in
theorem walk_ (A0 : Option Addr) (c0 : Nat) (l0 : List Int) (key : ByteArray) (w : World) (hr0 : Kd.C (Kd.int .u8) w A0 l0.length l0) (hc0 : l0.length ≤ c0) (hl : Bytes l0) (hlen : l0.length ≤ 1048576) (hkey : key.size ≤ 1048576) (hT : GT w) :
    Calls Tryd.prog 4 #[.slice A0 l0.length c0, .string key] w fun e w' => e = .returned (.bool true) ∧ Below w.heap.size w w' := by
  have HR0 := Aside0.mk hr0
  have HL := Aside0.mk hl
  have HT := Aside0.mk hT
  have HKY := Aside0.mk hkey
  have HB0 := Aside0.mk (Below.refl w.heap.size w)
  have hlen2 : l0.length ≤ 140737488351232 := by omega
  obtain ⟨kx, hkx⟩ : ∃ kx, key ++ (⟨#[120]⟩ : ByteArray) = kx := ⟨_, rfl⟩
  have HKX : Aside0 (kx.size ≤ 1048577) := ⟨by rw [← hkx]; simp only [ByteArray.size_append]; have : (⟨#[120]⟩ : ByteArray).size = 1 := rfl; omega⟩
  clear hr0 hl hT
  go_enter Tryd.func4, Tryd.ntmps4
  go_wp2_with (first
    | ((with_reducible refine gate_builtin (b := .append) (xs := #[.const (.slice none 0 0), .tmp 10]) rfl ?_); at_builtin; go_must (refine Kd.R_append_rows (Kd.int .u8) (w0 := w) w.heap.size rfl (.const (.slice none 0 0)) (.tmp 10) 42 5 (.int .u8 0) 1 rfl Tryd.underlying42 Room.info_u8 rfl (by decide) (by omega) (.slice none 0 0) ([] : List Int) l0 _ _ _ (fun _ => True) (fun _ => False) rfl rfl ?aO ?aR (fun _ _ h => h) (fun _ h => h.elim) (fun _ _ => trivial) HB0.out (Nat.le_refl _) ?aL ?_); (case aO => exact Kd.R_nil _ _ _ _ _); (case aR => exact HR0.out); (case aL => simp; omega); intro v1 w1 ho hb hg_ hn_; (obtain ⟨Ak, ck, ek⟩ := Kd.R_slice ho); subst ek; (have HO := Aside0.mk ho); (have HB := Aside0.mk hb); clear ho hb hg_ hn_))
  have HK : Aside0 (Kd.R (Kd.int .u8) 5 w1 w.heap.size (fun _ => True) (.slice Ak l0.length ck) l0) := ⟨HO.out⟩
  have hnil : ([] ++ l0 : List Int).length = l0.length := rfl
  refine (Room.bytes_new HB.out HR0.out hc0 hlen2 HK.out).mono ?_
  rintro e w2 ⟨b, cap, rfl, hS⟩
  generalize w1.heap.size = g at hS ⊢
  have S := Aside0.mk hS
  clear hS HB HK HO hnil w1
  obtain ⟨m1, hm1⟩ : ∃ m1, mayL l0 key = m1 := ⟨_, rfl⟩
  obtain ⟨m2, hm2⟩ : ∃ m2, mayL l0 kx = m2 := ⟨_, rfl⟩
  have HM1 := Aside0.mk hm1
  have HM2 := Aside0.mk hm2
  clear hm1 hm2
  go_wp2_with fail
  refine (cRefMay (kept S.out) (by omega) HL.out (by have := HKY.out; omega) HM1.out).mono ?_
  rintro e w3 ⟨rfl, hb3⟩
  have S3 := Aside0.mk (S.out.step hb3)
  clear hb3 S w2
  go_wp2_with fail
  refine (cMayB (lent S3.out) (by omega) HL.out (by have := HKY.out; omega) (GT.below HT.out S3.out.below) HM1.out).mono ?_
  rintro e w4 ⟨rfl, hb4⟩
  have S4 := Aside0.mk (S3.out.step hb4)
  clear hb4 S3 w3
  -- with another key
  go_wp2_with fail
  refine (cMayB (s := kx) (lent S4.out) (by omega) HL.out (by have := HKX.out; omega) (GT.below HT.out S4.out.below) HM2.out).mono ?_
  rintro e w5 ⟨rfl, hb5⟩
  have S5 := Aside0.mk (S4.out.step hb5)
  clear hb5 S4 w4
  go_wp2_with fail
  refine (cRefMay (s := kx) (kept S5.out) (by omega) HL.out (by have := HKX.out; omega) HM2.out).mono ?_
  rintro e w6 ⟨rfl, hb6⟩
  have S6 := Aside0.mk (S5.out.step hb6)
  clear hb6 S5 w5
  go_wp2_with fail
  refine (cMayB (lent S6.out) (by omega) HL.out (by have := HKY.out; omega) (GT.below HT.out S6.out.below) HM1.out).mono ?_
  rintro e w7 ⟨rfl, hb7⟩
  have S7 := Aside0.mk (S6.out.step hb7)
  clear hb7 S6 w6
  go_wp2_with fail
  refine (cSame (lent S7.out) (kept S7.out) rfl).mono ?_
  rintro e w8 ⟨rfl, hb8⟩
  have S8 := Aside0.mk (S7.out.step hb8)
  clear hb8 S7 w7
  go_wp2_with fail
  obtain ⟨F9, hRm9, hFb9⟩ := S8.out.room
  refine (Room.hold_calls w8 _ F9 g _ hRm9 (by simp)).mono ?_
  rintro e w9 ⟨rfl, rfl⟩
  clear hRm9 hFb9 F9
  go_wp2_with fail
  go_loopw [9] (fun i wr => ∃ (k : Nat) (l : List Int), (k = 0 ∨ k < l0.length) ∧ i = .int .i64 k ∧ Aside0 (Bytes l) ∧ Aside0 (Room.Sit w wr g b l0.length cap l Ak ck l0)) (fun i _ => l0.length - (intOf i).toNat)
  case atStart => exact ⟨0, l0, .inl rfl, rfl, HL, S8⟩
  case round =>
    clear S8
    obtain ⟨k, l, hk, rfl, HBY, S⟩ := hrel
    by_cases hlt : k + 1 < l0.length
    · skip
      have hlti : (k : Int) + 1 < (l0.length : Int) := by omega
      have hcell := S.out.row.cell k (by rw [S.out.len]; omega)
      have hfz := S.out.row.frozen k
      have hb1 := bytes_rd HBY.out k (by rw [S.out.len]; omega)
      have hbx := u8_xor_range hb1 (y := 255) ⟨by omega, by omega⟩
      have HBX := Aside0.mk hbx
      clear hb1 hbx
      go_wp2_with fail
      exact ⟨⟨k + 1, l.set k (bits .xor .u8 (rd l k) 255), by omega, by go_num, ⟨Bytes_set HBY.out k HBX.out⟩, ⟨S.out.set k (by rw [S.out.len]; omega) _⟩⟩, by simp [intOf]; omega⟩
    · skip
      have hlti : ¬ ((k : Int) + 1 < (l0.length : Int)) := by omega
      have hll : Aside0 (l.length = l0.length) := ⟨S.out.len⟩
      obtain ⟨m3, hm3⟩ : ∃ m3, mayL l key = m3 := ⟨_, rfl⟩
      have HM3 := Aside0.mk hm3
      clear hm3
      go_wp2_with fail
      refine (cMayB (lent S.out) (by omega) HBY.out (by have := HKY.out; omega) (GT.below HT.out S.out.below) HM3.out).mono ?_
      rintro e w10 ⟨rfl, hb10⟩
      have S10 := Aside0.mk (S.out.step hb10)
      clear hb10 S wr
      go_wp2_with (first
        | ((with_reducible refine gate_builtin (b := .append) (xs := #[.const (.slice none 0 0), .tmp 72]) rfl ?_); at_builtin; go_must (refine Kd.R_append_rows (Kd.int .u8) (w0 := w) w.heap.size rfl (.const (.slice none 0 0)) (.tmp 72) 42 5 (.int .u8 0) 1 rfl Tryd.underlying42 Room.info_u8 rfl (by decide) (by omega) (.slice none 0 0) ([] : List Int) l _ _ _ (fun _ => True) (fun _ => False) rfl rfl ?aO ?aR (fun _ _ h => h) (fun _ h => h.elim) (fun _ _ => trivial) S10.out.below S10.out.below.size ?aL ?_); (case aO => exact Kd.R_nil _ _ _ _ _); (case aR => exact (lent S10.out).2.2); (case aL => have := hll.out; simp; omega); intro v11 w11 ho hb hg_ hn_; (have HO := Aside0.mk ho); (have HG := Aside0.mk hg_); clear ho hb hg_ hn_))
      have hbn : Below w10.heap.size w10 w11 := ⟨HG.out.os, HG.out.tape, HG.out.output, HG.out.size, fun k hk => HG.out.block k hk (by simp [Value.ownBlock])⟩
      have S11 := Aside0.mk (S10.out.step hbn)
      obtain ⟨Ar, nr, cr, er, hrd, -⟩ := Rd.of_R HO.out
      have hrd' : Rd (Kd.int .u8) w11 Ar nr cr l := hrd
      have hnr : nr = l.length := hrd'.1.symm
      have hnr2 : nr ≤ 1048576 := by have := hll.out; omega
      subst er
      have Rr_11 := Aside0.mk hrd'
      clear hbn HO HG hrd hrd' hnr S10 w10
      go_wp2_with fail
      refine (cRefMay Rr_11.out (by omega) HBY.out (by have := HKY.out; omega) HM3.out).mono ?_
      rintro e w12 ⟨rfl, hb12⟩
      have S12 := Aside0.mk (S11.out.step hb12)
      have Rr_12 := Aside0.mk (Rr_11.out.step hb12)
      clear hb12 S11 Rr_11 w11
      clear Rr_12
      go_wp2_with fail
      refine (cMayB (kept S12.out) (by omega) HL.out (by have := HKY.out; omega) (GT.below HT.out S12.out.below) HM1.out).mono ?_
      rintro e w13 ⟨rfl, hb13⟩
      have S13 := Aside0.mk (S12.out.step hb13)
      clear hb13 S12 w12
      go_wp2_with fail
      obtain ⟨F14, hRm14, hFb14⟩ := S13.out.room
      refine (Room.hold_calls w13 _ F14 g _ hRm14 (by simp)).mono ?_
      rintro e w14 ⟨rfl, rfl⟩
      clear hRm14 hFb14 F14
      go_wp2_with fail
      go_ret
      exact ⟨rfl, S13.out.below⟩
theorem walk (A0 : Option Addr) (c0 : Nat) (l0 : List Int) {w' : World} (hr0 : Kd.C (Kd.int .u8) w' A0 l0.length l0) (hc0 : l0.length ≤ c0) (hw0 : ∀ x ∈ l0, (Lit.int .u8 x).wf = true) (y0 : l0.length * 1 ≤ 140737488351232) (up0 : l0.length ≤ 1048576) (key : ByteArray) (yk : key.size ≤ 140737488351232) (up1 : key.size ≤ 1048576) (w : World) (hT : GT w) (e : w' = w := by rfl) :
    Calls Tryd.prog 4 #[.slice A0 l0.length c0, .string key] w fun e w' => e = .returned (.bool true) ∧ Below w.heap.size w w' := by
  subst e
  exact walk_ A0 c0 l0 key _ hr0 hc0 (bytes_wf hw0) up0 up1 hT
end Go.Proofs.YtlcohooognjmaaaDoor.BloomMays
