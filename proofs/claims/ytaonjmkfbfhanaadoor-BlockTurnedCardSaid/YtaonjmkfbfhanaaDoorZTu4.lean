/- BlockTurned returns true, and leaves its arguments as they were, for every input; the table of four bits' sums reads as the program's text lays it (tied by the card). -/
import Derived.Test.YtaonjmkfbfhanaaDoorZTu3
import Derived.BigQuiet
import Derived.Test.YtaonjmkfbfhanaaDoorZTu2
import Derived.Test.YtaonjmkfbfhanaaDoorZTu1
import Derived.Test.YtaonjmkfbfhanaaDoorRows
import Derived.WalkKit
import Derived.ProofKit
import Derived.OpenShut
import Derived.Test.YtaonjmkfbfhanaaDoorWWords
import Derived.Deep.Slices
import Derived.Deep.Fields
import Derived.ChangeSame
import Derived.ChangeArms
import Derived.SizedLaws
import Derived.Test.YtaonjmkfbfhanaaDoorCards
import Derived.Test.YtaonjmkfbfhanaaDoorTie
import Derived.ShutString
import Derived.ChangeOld
import Derived.Below
import Derived.Deep.DeepHandedRow
import Derived.Lib.LaidTab
import Derived.JoinedCond
import Derived.Deep.CondSized
import Derived.Test.YtaonjmkfbfhanaaDoorWSized
/- screelaw9.known (this claim's own lemmas). -/
namespace Go.Proofs.YtaonjmkfbfhanaaDoor.Bk
open Go.RowKit Go.Proofs.YtaonjmkfbfhanaaDoorW.PrintWords Go.Proofs.YtaonjmkfbfhanaaDoor.Own Go.Proofs.YtaonjmkfbfhanaaDoor.G Go.Proofs.YtaonjmkfbfhanaaDoor.Wk Go.Proofs.YtaonjmkfbfhanaaDoor.QBo
set_option linter.unusedVariables false
def cK : Array Value := #[.string (⟨#[97]⟩ : ByteArray), .int .u64 1, .bool false, .string (⟨#[120]⟩ : ByteArray), .string (⟨#[97, 98]⟩ : ByteArray), .int .u64 2, .bool true, .string (⟨#[]⟩ : ByteArray), .string (⟨#[98]⟩ : ByteArray), .int .u64 3, .bool false, .string (⟨#[]⟩ : ByteArray)]
theorem lK_at (w : World) : Kd.C kE (w.alloc (.cells cK 30)) (some ⟨w.heap.size, 0, none⟩) 3 lK := by
  have hb := heap_alloc_new w (.cells cK 30)
  refine ⟨rfl, by decide, fun _ => ⟨_, rfl, fun j p hp => ?_⟩⟩
  rcases j with _ | _ | _ | j
  · cases hp
    refine ⟨_, rfl, k30_mk _ e1K, fun i u hu => ?_⟩
    rcases i with _ | _ | _ | _ | i
    · cases hu; exact (blk_cell hb 0).trans rfl
    · cases hu; exact (blk_cell hb 1).trans rfl
    · cases hu; exact (blk_cell hb 2).trans rfl
    · cases hu; exact (blk_cell hb 3).trans rfl
    · exact absurd hu (by simp)
  · cases hp
    refine ⟨_, rfl, k30_mk _ e2K, fun i u hu => ?_⟩
    rcases i with _ | _ | _ | _ | i
    · cases hu; exact (blk_cell hb 4).trans rfl
    · cases hu; exact (blk_cell hb 5).trans rfl
    · cases hu; exact (blk_cell hb 6).trans rfl
    · cases hu; exact (blk_cell hb 7).trans rfl
    · exact absurd hu (by simp)
  · cases hp
    refine ⟨_, rfl, k30_mk _ e3K, fun i u hu => ?_⟩
    rcases i with _ | _ | _ | _ | i
    · cases hu; exact (blk_cell hb 8).trans rfl
    · cases hu; exact (blk_cell hb 9).trans rfl
    · cases hu; exact (blk_cell hb 10).trans rfl
    · cases hu; exact (blk_cell hb 11).trans rfl
    · exact absurd hu (by simp)
  · exact absurd hp (by simp [lK])
theorem addsK3 : (addsM (newM 2) lK).map szM = some 31 := by kernel_rfl
theorem rsK : rsRead 2 lK = 2 := by kernel_rfl
theorem givenK : givenL (-1) lK = lK := by unfold givenL; rw [if_neg (by decide), if_neg (by decide)]
theorem add_off (g n : Nat) : (⟨g, 0, none⟩ : Addr).add n = ⟨g, n, none⟩ := by
  by_cases h : n = 0
  · subst h; simp [Addr.add]
  · simp [Addr.add, h]
theorem lK_enW : ∀ e ∈ lK, EnW e := by
  intro e he
  simp only [lK, List.mem_cons, List.not_mem_nil, or_false] at he
  rcases he with rfl | rfl | rfl <;> exact ⟨by decide, by decide⟩
set_option maxHeartbeats 8000000 in
set_option maxRecDepth 100000 in
theorem known_calls {w : World} (hT : GT w) : Calls Tryd.prog 24 #[] w fun e w' => e = .returned (.bool true) ∧ Below w.heap.size w w' := by
  have HT := Aside0.mk hT
  clear hT
  obtain ⟨mK, hmK⟩ : ∃ m, addsM (newM 2) lK = some m := Option.isSome_iff_exists.1 addsK
  have hb31 : (bytesM mK).length = 31 := by have z := addsK2; rw [hmK] at z; exact Option.some.inj z
  have HQ0 := Aside0.mk hmK
  clear hmK
  go_enter Tryd.func24, Tryd.ntmps24
  go_wp2_with fail
  refine (new_calls 2 _).mono ?_
  rintro en W2 ⟨v1, v2, rfl, hM2, hb2⟩
  obtain ⟨W1, hW1⟩ : ∃ W1, w.alloc (.cells cK 30) = W1 := ⟨_, rfl⟩
  have HC1 : Aside0 (Kd.C kE W1 (some ⟨w.heap.size, 0, none⟩) 3 lK) := ⟨hW1 ▸ lK_at w⟩
  have HB1 : Aside0 (Below w.heap.size w W1) := ⟨hW1 ▸ below_alloc (Below.refl _ _) _⟩
  have hM2' : MkAt W2 W1.heap.size W1.heap.size (newM 2) v1 v2 := hW1 ▸ hM2
  have hb2' : Below W1.heap.size W1 W2 := hW1 ▸ hb2
  obtain ⟨gm, hgm⟩ : ∃ gm, W1.heap.size = gm := ⟨_, rfl⟩
  have HGM := Aside0.mk hgm
  obtain ⟨gl, hgl⟩ : ∃ gl, w.heap.size = gl := ⟨_, rfl⟩
  have HGL := Aside0.mk hgl
  have HM2 : Aside0 (MkAt W2 gm gm (newM 2) v1 v2) := ⟨by rw [← hgm]; exact hM2'⟩
  have HB2 : Aside0 (Below gm W1 W2) := ⟨by rw [← hgm]; exact hb2'⟩
  have hgs : (w.alloc (.cells cK 30)).heap.size = gm := by rw [hW1]; exact hgm
  have hgs2 : w.heap.size + 1 = gm := by rw [← hgs]; simp
  have hgz := hgs
  unfold cK at hgz
  rw [hgz]
  rw [hgl] at HC1 ⊢
  clear hM2 hb2 hM2' hb2' hgm hW1 hgl hgs hgs2 hgz
  go_wp2_with fail
  go_loopw [3] (fun s3 wr => ∃ (k : Nat) (mm : Mk), s3 = .int .i64 (k : Int) ∧ k ≤ 3 ∧ Aside0 (GoodM 2 mm k) ∧ Aside0 (addsM mm (lK.drop k) = some mK) ∧ Aside0 (∃ v1 v2, MkAt wr gm gm mm v1 v2) ∧ Aside0 (Below gm W1 wr)) (fun s3 _ => 3 - (intOf s3).toNat)
  case atStart => exact ⟨0, newM 2, rfl, Nat.zero_le _, ⟨goodM_new _⟩, HQ0, ⟨_, _, HM2.out⟩, HB2⟩
  case round =>
    clear HM2 HB2
    obtain ⟨k, mm, rfl, hk, HGd, HQ, HMm, HBr⟩ := hrel
    have hBW : Below W1.heap.size W1 wr := by rw [HGM.out]; exact HBr.out
    by_cases hlt : k < 3
    · obtain ⟨ad, ea, x0, x1, x2, x3⟩ := at_T30 (Kd.C_below HC1.out hBW) (k : Int) (by omega) (by omega)
      injection ea with ea
      subst ea
      obtain ⟨e, he⟩ : ∃ e, rd_T30 lK (k : Int) = e := ⟨_, rfl⟩
      rw [he, Int.toNat_natCast, add_off] at x0 x1 x2 x3
      have hkl : k < lK.length := hlt
      have hek : lK[k]'hkl = e := by rw [← he]; simp [rd_T30, List.getD_eq_getElem?_getD, hkl]
      have HEe : Aside0 (EnW e) := ⟨by rw [← hek]; exact lK_enW _ (List.getElem_mem _)⟩
      have HQ2 : Aside0 (addsM mm (e :: lK.drop (k + 1)) = some mK) := ⟨by rw [← hek, ← List.drop_eq_getElem_cons]; exact HQ.out⟩
      obtain ⟨v1, v2, hMm⟩ := HMm.out
      have HM := Aside0.mk hMm
      clear he hek hMm hBW HQ
      have hgd := HGd.out.data
      have hgp := HGd.out.places
      have hgn := HGd.out.n
      have hgr : mm.rs = 2 := HGd.out.rs
      have HAd := Aside0.mk (add_calls HM.out HEe.out (by omega) (by omega) (by omega) (by omega) (by omega) HGd.out.last)
      have h0 : (addM mm e).1 = 0 := by
        have z := HQ2.out
        unfold addsM at z
        by_cases q : (addM mm e).1 = 0
        · exact q
        · rw [if_neg q] at z; cases z
      have HGd2 : Aside0 (GoodM 2 (addM mm e).2 (k + 1)) := ⟨goodM_step HGd.out h0 HEe.out⟩
      have HQ3 : Aside0 (addsM (addM mm e).2 (lK.drop (k + 1)) = some mK) := ⟨by have z := HQ2.out; unfold addsM at z; rwa [if_pos h0] at z⟩
      rw [h0] at HAd
      clear h0 hgd hgp hgn hgr hkl
      go_wp2_with fail
      refine HAd.out.mono ?_
      rintro en W3 ⟨rfl, hS⟩
      obtain ⟨v1', v2', hM3, hB3, -, -⟩ := hS
      have HM3 := Aside0.mk hM3
      have HB3 := Aside0.mk (HBr.out.trans hB3)
      clear hM3 hB3
      go_wp2_with fail
      refine (num_calls 0 W3).mono ?_
      rintro en W4 ⟨rfl, rfl⟩
      go_wp2_with fail
      go_roundw
      case rel => exact ⟨k + 1, _, by go_num, by omega, HGd2, HQ3, ⟨v1', v2', HM3.out⟩, HB3⟩
      case measure => simp [intOf]; omega
    · obtain rfl : k = 3 := by omega
      have HF : Aside0 (mm = mK) := ⟨by have z := HQ.out; rw [show lK.drop 3 = [] from rfl] at z; exact Option.some.inj z⟩
      have hm := HF.out
      subst hm
      have hgd := HGd.out.data
      have hgp := HGd.out.places
      have HSm : Aside0 (∀ p ∈ mm.places, p < 4294967296) := ⟨fun p hp => by have z := HGd.out.small p hp; omega⟩
      obtain ⟨v1, v2, hMm⟩ := HMm.out
      have HTr := Aside0.mk (HT.out.below (below_step HB1.out hBW))
      have HBy := Aside0.mk (bytes_calls hMm (by omega) (by omega) HGd.out.bytes HSm.out HTr.out)
      have HMB : Aside0 (Bytes (bytesM mm)) := ⟨bytesM_bytes HGd.out.bytes HSm.out (by omega)⟩
      have HOM : Aside0 (openB (bytesM mm) = some (lK, rsRead 2 lK)) := ⟨open_made 2 lK HQ0.out lK_enW (by omega)⟩
      have HM := Aside0.mk hMm
      have HBW := Aside0.mk hBW
      clear hMm hgd hgp hBW hlt
      go_wp2_with fail
      refine HBy.out.mono ?_
      rintro en W3 ⟨A3, n3, c3, l3, rfl, hl3, hd3, -, hb3⟩
      subst hl3
      have hn3 : n3 = 31 := by rw [← hd3.1]; exact hb31
      subst hn3
      have HD3 := Aside0.mk hd3
      have HB3 := Aside0.mk (below_step HBW.out hb3)
      have HM3 := Aside0.mk (HM.out.below hb3)
      have HOp := Aside0.mk (open_calls hd3 HMB.out (by omega) (HTr.out.below hb3))
      rw [HOM.out] at HOp
      clear hd3 hb3
      go_wp2_with fail
      refine HOp.out.mono ?_
      rintro en W4 ⟨⟨gk, rfl, hK⟩, hb4⟩
      have HK := Aside0.mk hK
      have HB4 := Aside0.mk (below_step HB3.out hb4)
      have HM4 := Aside0.mk (HM3.out.below hb4)
      clear hK hb4
      go_wp2_with fail
      have HSz : Aside0 (szM mm = 31) := ⟨by have z := addsK3; rw [HQ0.out] at z; exact Option.some.inj z⟩
      have hgd := HGd.out.data
      have hgp := HGd.out.places
      have HSiz := Aside0.mk (size_calls HM4.out (by omega) (by omega))
      clear hgd hgp
      refine HSiz.out.mono ?_
      rintro en W5 ⟨rfl, nn, hW5⟩
      have hb5 : Below W4.heap.size W4 W5 := by rw [hW5]; repeat (first | exact Below.refl _ _ | apply pw_below_drewN)
      clear hW5
      rw [HSz.out]
      have HK5 := Aside0.mk (HK.out.step hb5)
      have HB5 := Aside0.mk (below_step HB4.out hb5)
      clear hb5
      go_wp2_with fail
      refine (num_calls 0 W5).mono ?_
      rintro en W6 ⟨rfl, rfl⟩
      obtain ⟨A6, n6, c6, k1, k2, k3⟩ := HK5.out
      have n6e : n6 = 3 := by obtain ⟨A', q', e'⟩ := Kd.R_slice k3; injection e'
      subst n6e
      have kc0 : W6.cell? ⟨gk, 0, none⟩ = some (.slice A6 3 c6) := by rw [blk_cell k1]; rfl
      have kc1 : W6.cell? ⟨gk, 1, none⟩ = some (.int .i64 ((2 : Nat) : Int)) := by rw [blk_cell k1, rsK]; rfl
      have HKR := Aside0.mk (Kd.R_reads' k3)
      clear k1 k2 k3
      go_wp2_with fail
      refine (given_calls gk 3 c6 A6 lK (-1) W6 (by omega) kc0 HKR.out.2.2).mono ?_
      rintro en W7 ⟨v7, rfl, hr7, hb7⟩
      rw [givenK] at hr7
      obtain ⟨A7, q7, e7⟩ := Kd.R_slice hr7
      subst e7
      have HR7 := Aside0.mk (Kd.R_reads' hr7)
      have HB7 := Aside0.mk (below_step HB5.out hb7)
      have kd0 := pw_cell_below hb7 kc0
      have kd1 := pw_cell_below hb7 kc1
      have HKC := Aside0.mk (Kd.C_below HKR.out.2.2 hb7)
      clear hr7 hb7 kc0 kc1
      go_wp2_with fail
      refine (sameEntries_calls HR7.out.2.2 HR7.out.2.1 (Kd.C_below HC1.out HB7.out) (Nat.le_refl _) (by decide)).mono ?_
      rintro en W8 ⟨rfl, hb8⟩
      have HB8 := Aside0.mk (below_step HB7.out hb8)
      have ke0 := pw_cell_below hb8 kd0
      have ke1 := pw_cell_below hb8 kd1
      have HKC8 := Aside0.mk (Kd.C_below HKC.out hb8)
      clear hb8 kd0 kd1
      go_wp2_with fail
      refine (seek_calls ⟨#[97, 97]⟩ (by omega) (by omega) (by omega) ke0 ke1 HKC8.out).mono ?_
      rintro en W9 h9
      have zs : seekF lK 2 ⟨#[97, 97]⟩ (lK.length + 1) 0 = some 1 := seekK1
      rw [zs] at h9
      have he9 : en = .returned (.tuple #[.agg #[.string (⟨#[97, 98]⟩ : ByteArray), .int .u64 2, .bool true, .string (⟨#[]⟩ : ByteArray)], .bool true]) := h9.1.2
      subst he9
      have hb9 := h9.2
      have HB9 := Aside0.mk (below_step HB8.out hb9)
      have kf0 := pw_cell_below hb9 ke0
      have kf1 := pw_cell_below hb9 ke1
      have HKC9 := Aside0.mk (Kd.C_below HKC8.out hb9)
      clear hb9 h9 zs ke0 ke1
      go_wp2_with fail
      have hba : Below W9.heap.size W9 (W9.alloc (.cells #[.string (⟨#[97, 98]⟩ : ByteArray), .int .u64 2, .bool true, .string (⟨#[]⟩ : ByteArray)] 30)) := below_alloc (Below.refl _ _) _
      refine (seek_calls ⟨#[99]⟩ (by omega) (by omega) (by omega) (pw_cell_below hba kf0) (pw_cell_below hba kf1) (Kd.C_below HKC9.out hba)).mono ?_
      rintro en W10 h10
      have zs : seekF lK 2 ⟨#[99]⟩ (lK.length + 1) 0 = none := seekK2
      rw [zs] at h10
      have he10 : en = .returned (.tuple #[.agg #[.string (⟨#[]⟩ : ByteArray), .int .u64 0, .bool false, .string (⟨#[]⟩ : ByteArray)], .bool false]) := h10.1
      subst he10
      have hb10 := h10.2
      have HBX := Aside0.mk (below_step (below_step HB9.out hba) hb10)
      have HX7 : Aside0 (W10.heap[W9.heap.size]? = some (.cells #[.string (⟨#[97, 98]⟩ : ByteArray), .int .u64 2, .bool true, .string (⟨#[]⟩ : ByteArray)] 30 (0, 0))) := ⟨(hb10.block _ (blk_lt (heap_alloc_new W9 _))).trans (heap_alloc_new W9 _)⟩
      clear hba hb10 h10 zs kf0 kf1
      go_wp2_with fail
      obtain ⟨WZ, hWZ⟩ : ∃ WZ, (W10.alloc (.cells #[.string (⟨#[]⟩ : ByteArray), .int .u64 0, .bool false, .string (⟨#[]⟩ : ByteArray)] 30)) = WZ := ⟨_, rfl⟩
      have hbz : Below W10.heap.size W10 WZ := by rw [← hWZ]; exact below_alloc (Below.refl _ _) _
      have hxz := (hbz.block _ (blk_lt HX7.out)).trans HX7.out
      have y0 : WZ.cell? ⟨W9.heap.size, 0, none⟩ = some (.string (⟨#[97, 98]⟩ : ByteArray)) := by rw [blk_cell hxz]; rfl
      have y1 : WZ.cell? ⟨W9.heap.size, 1, none⟩ = some (.int .u64 2) := by rw [blk_cell hxz]; rfl
      have y2 : WZ.cell? ⟨W9.heap.size, 2, none⟩ = some (.bool true) := by rw [blk_cell hxz]; rfl
      have y3 : WZ.cell? ⟨W9.heap.size, 3, none⟩ = some (.string (⟨#[]⟩ : ByteArray)) := by rw [blk_cell hxz]; rfl
      have HBZ := Aside0.mk (below_step HBX.out hbz)
      obtain ⟨ad, ea, x0, x1, x2, x3⟩ := at_T30 (Kd.C_below HC1.out HBZ.out) 1 (by omega) (by omega)
      injection ea with ea
      subst ea
      rw [add_off] at x0 x1 x2 x3
      have x0' : WZ.cell? ⟨gl, 4, none⟩ = some (.string (⟨#[97, 98]⟩ : ByteArray)) := x0
      have x1' : WZ.cell? ⟨gl, 5, none⟩ = some (.int .u64 2) := x1
      have x2' : WZ.cell? ⟨gl, 6, none⟩ = some (.bool true) := x2
      have x3' : WZ.cell? ⟨gl, 7, none⟩ = some (.string (⟨#[]⟩ : ByteArray)) := x3
      rw [hWZ]
      clear x0 x1 x2 x3 hxz hbz hWZ
      go_wp2_with fail
      repeat (go_quiet (fail); try (go_wp2_with fail))
      go_ret
      refine ⟨rfl, below_step HB1.out ?_⟩
      repeat (first | exact HBZ.out | apply pw_below_drewN)
end Go.Proofs.YtaonjmkfbfhanaaDoor.Bk
/- BlockAgain's plain law (this claim's own lemmas). -/
namespace Go.Proofs.YtaonjmkfbfhanaaDoor.Bk
open Go.RowKit Go.Proofs.YtaonjmkfbfhanaaDoorW.PrintWords Go.Proofs.YtaonjmkfbfhanaaDoor.Own Go.Proofs.YtaonjmkfbfhanaaDoor.G Go.Proofs.YtaonjmkfbfhanaaDoor.QBo
set_option linter.unusedVariables false
theorem again_law {b : List Int} {L : List En} {R : Nat} (h : openB b = some (L, R)) : 1 ≤ R ∧ R ≤ max L.length 1 ∧ bytesM (madeM (newM (R : Int)) L).2 = b ∧ ∀ r : Int, (madeM (newM r) L).1 = L := by
  obtain ⟨h1, h2, m, hm, hb⟩ := open_form h
  refine ⟨h1, h2, by rw [(adds_push L hm).2.2]; exact hb, fun r => ?_⟩
  have z := adds_any L (m := newM (R : Int)) (m' := newM r) rfl rfl hm
  rw [(adds_push L z).2.2]
end Go.Proofs.YtaonjmkfbfhanaaDoor.Bk
/- A burst of at most 32 bits changes the sum; one bit turned (plain laws; this claim's own lemmas). -/
namespace Go.Proofs.YtaonjmkfbfhanaaDoor.G
open Go.RowKit Go.Proofs.YtaonjmkfbfhanaaDoorW.PrintWords Go.Proofs.YtaonjmkfbfhanaaDoor.Own
set_option linter.unusedVariables false
/-- The sum fed bit by bit. -/
def feed (x : Nat) (b : Nat → Nat) : Nat → Nat
  | 0 => x
  | p + 1 => stepN (feed x b p ^^^ b p)
def stepI : Nat → Nat → Nat
  | 0, x => x
  | j + 1, x => stepN (stepI j x)
theorem stepN_zero : stepN 0 = 0 := by decide
theorem stepN_less (x : Nat) (hx : x < 4294967296) : stepN x < 4294967296 := by
  unfold stepN
  split
  · exact Nat.xor_lt_two_pow (n := 32) (by omega) (by omega)
  · omega
theorem stepI_xor (j a b : Nat) : stepI j (a ^^^ b) = stepI j a ^^^ stepI j b := by
  induction j with
  | zero => rfl
  | succ j ih => simp only [stepI, ih, stepN_xor]
theorem stepI_less (j x : Nat) (hx : x < 4294967296) : stepI j x < 4294967296 := by
  induction j with
  | zero => exact hx
  | succ j ih => exact stepN_less _ ih
theorem stepN_ne (x : Nat) (hx : x < 4294967296) (h : x ≠ 0) : stepN x ≠ 0 := by
  unfold stepN
  split
  · intro he
    have h1 : x / 2 = 2197175160 := by
      have := congrArg (· ^^^ 2197175160) he
      simpa [Nat.xor_assoc] using this
    omega
  · omega
theorem stepI_ne (j x : Nat) (hx : x < 4294967296) (h : x ≠ 0) : stepI j x ≠ 0 := by
  induction j with
  | zero => exact h
  | succ j ih => exact stepN_ne _ (stepI_less j x hx) ih
theorem stepI_pow (j t : Nat) : stepI j (t * 2 ^ j) = t := by
  induction j generalizing t with
  | zero => simp [stepI]
  | succ j ih =>
    have h : stepI j (t * 2 ^ (j + 1)) = 2 * t := by
      rw [Nat.pow_succ, show t * (2 ^ j * 2) = (2 * t) * 2 ^ j by rw [Nat.mul_comm (2 ^ j) 2, ← Nat.mul_assoc, Nat.mul_comm t 2]]
      exact ih (2 * t)
    show stepN (stepI j _) = t
    rw [h, stepN_two]
theorem feed_xor (x y : Nat) (b c : Nat → Nat) (p : Nat) : feed (x ^^^ y) (fun q => b q ^^^ c q) p = feed x b p ^^^ feed y c p := by
  induction p with
  | zero => rfl
  | succ p ih =>
    simp only [feed, ih, ← stepN_xor]
    congr 1
    rw [Nat.xor_assoc, ← Nat.xor_assoc (feed y c p), Nat.xor_comm (feed y c p) (b p), Nat.xor_assoc, ← Nat.xor_assoc (feed x b p)]
theorem feed_congr (x : Nat) (b c : Nat → Nat) (p : Nat) (h : ∀ q, q < p → b q = c q) : feed x b p = feed x c p := by
  induction p with
  | zero => rfl
  | succ p ih => simp only [feed, ih (fun q hq => h q (by omega)), h p (by omega)]
theorem xor_low (T j : Nat) : T % 2 ^ j ^^^ (T / 2 ^ j % 2) * 2 ^ j = T % 2 ^ (j + 1) := by
  apply Nat.eq_of_testBit_eq
  intro i
  rw [Nat.testBit_xor, Nat.testBit_mod_two_pow, Nat.testBit_mod_two_pow, Nat.mul_comm, Nat.testBit_two_pow_mul]
  have h2 : T / 2 ^ j % 2 = T / 2 ^ j % 2 ^ 1 := by simp
  rw [h2, Nat.testBit_mod_two_pow, Nat.testBit_div_two_pow]
  by_cases h : i < j
  · simp [h, show ¬ j ≤ i by omega, show i < j + 1 by omega]
  · by_cases he : i = j
    · subst he
      simp
    · simp [h, show j ≤ i by omega, show ¬ i < j + 1 by omega]
      omega
/-- A burst: the state that it leaves. -/
theorem feed_burst (b : Nat → Nat) (P0 J T : Nat) (h0 : ∀ q, q < P0 → b q = 0) (hb : ∀ j, j < J → b (P0 + j) = T / 2 ^ j % 2) (j : Nat) (hj : j ≤ J) : feed 0 b (P0 + j) = stepI j (T % 2 ^ j) := by
  induction j with
  | zero =>
    have hz : ∀ p, p ≤ P0 → feed 0 b p = 0 := by
      intro p
      induction p with
      | zero => intro _; rfl
      | succ p ih =>
        intro hp
        simp only [feed, ih (by omega), h0 p (by omega)]
        decide
    rw [Nat.add_zero, hz P0 (Nat.le_refl _)]
    simp [stepI, Nat.mod_one]
  | succ j ih =>
    show stepN (feed 0 b (P0 + j) ^^^ b (P0 + j)) = _
    rw [ih (by omega), hb j (by omega)]
    show _ = stepN (stepI j (T % 2 ^ (j + 1)))
    rw [← xor_low T j, stepI_xor, stepI_pow]
theorem feed_burst_ne (b : Nat → Nat) (P0 J T : Nat) (hT : T < 4294967296) (h0 : ∀ q, q < P0 → b q = 0) (hb : ∀ j, j < J → b (P0 + j) = T / 2 ^ j % 2) (hne : T % 2 ^ J ≠ 0) : feed 0 b (P0 + J) ≠ 0 := by
  rw [feed_burst b P0 J T h0 hb J (Nat.le_refl _)]
  exact stepI_ne J _ (Nat.lt_of_le_of_lt (Nat.mod_le _ _) hT) hne
/-- Bit number q of a list of bytes, the lowest first. -/
def bitAt (l : List Int) (q : Nat) : Nat := (rd l ((q / 8 : Nat) : Int)).toNat / 2 ^ (q % 8) % 2
theorem feedJ (x y c J : Nat) (b : Nat → Nat) (p : Nat) (hb : ∀ j, j < J → b (p + j) = c / 2 ^ j % 2) (hx : feed x b p = y) : feed x b (p + J) = stepI J (y ^^^ c % 2 ^ J) := by
  have key : ∀ j, j ≤ J → feed x b (p + j) = stepI j (y ^^^ c % 2 ^ j) := by
    intro j
    induction j with
    | zero => intro _; simp [stepI, hx, Nat.mod_one]
    | succ j ih =>
      intro hj
      show stepN (feed x b (p + j) ^^^ b (p + j)) = _
      rw [ih (by omega), hb j (by omega)]
      show _ = stepN (stepI j (y ^^^ c % 2 ^ (j + 1)))
      rw [← xor_low c j, ← Nat.xor_assoc, stepI_xor j (y ^^^ c % 2 ^ j), stepI_pow]
  exact key J (Nat.le_refl _)
theorem feed8 (x y c : Nat) (hc : c < 256) (b : Nat → Nat) (p : Nat) (hb : ∀ j, j < 8 → b (p + j) = c / 2 ^ j % 2) (hx : feed x b p = y) : feed x b (p + 8) = step4 (step4 (y ^^^ c)) := by
  rw [feedJ x y c 8 b p hb hx, Nat.mod_eq_of_lt (by omega)]
  rfl
theorem feed_sum (l : List Int) (hl : Bytes l) (m : Nat) (hm : m ≤ l.length) : ((feed 4294967295 (bitAt l) (8 * m) : Nat) : Int) = sumf (l.take m) := by
  induction m with
  | zero => simp [feed, sumf]
  | succ m ih =>
    have h := ih (by omega)
    have hr := sumf_range (l := l.take m) (fun y hy => hl y (List.mem_of_mem_take hy))
    obtain ⟨c, hc⟩ := Int.eq_ofNat_of_zero_le (bytes_rd hl m (by omega)).1
    have hc2 : c < 256 := by have := (bytes_rd hl m (by omega)).2; omega
    rw [sumf_snoc l m (by omega), ← h, hc]
    have hf := feed8 4294967295 (feed 4294967295 (bitAt l) (8 * m)) c hc2 (bitAt l) (8 * m) (fun j hj => by unfold bitAt; rw [show (8 * m + j) / 8 = m by omega, show (8 * m + j) % 8 = j by omega, hc]; rfl) rfl
    rw [show 8 * (m + 1) = 8 * m + 8 by omega, hf]
    have hy : feed 4294967295 (bitAt l) (8 * m) < 4294967296 := by rw [← h] at hr; have := hr.2; omega
    have hxc : feed 4294967295 (bitAt l) (8 * m) ^^^ c < 4294967296 := Nat.xor_lt_two_pow (n := 32) (by omega) (by omega)
    unfold sumc
    rw [u32_xor_nat _ _ (by omega) (by omega), ← step4_eq _ hxc]
    exact step4_eq _ (stepN_less _ (stepN_less _ (stepN_less _ (stepN_less _ hxc))))
theorem rd_four (s i : Nat) (hi : i < 4) (hs : s < 4294967296) : rd (fourL (s : Int)) (i : Int) = ((s / 256 ^ i % 256 : Nat) : Int) := by
  have : i = 0 ∨ i = 1 ∨ i = 2 ∨ i = 3 := by omega
  rcases this with rfl | rfl | rfl | rfl
  · show (s : Int) % 256 = _; omega
  · show (s : Int) / 256 % 256 = _; omega
  · show (s : Int) / 65536 % 256 = _; omega
  · show (s : Int) / 16777216 = _; omega
theorem rd_tail (l : List Int) (M i : Nat) (hl : M + 4 = l.length) (hi : i < 4) : rd l ((M + i : Nat) : Int) = rd ((l.take (M + 4)).drop M) (i : Int) := by
  simp only [rd, Int.toNat_natCast, List.getD_eq_getElem?_getD, List.getElem?_drop, List.getElem?_take]
  rw [if_pos (by omega)]
theorem feed_whole (l : List Int) (hl : Bytes l) (M : Nat) (hM : M + 4 = l.length) (h : fourL (sumF (l.take M)) = (l.take (M + 4)).drop M) : feed 4294967295 (bitAt l) (8 * M + 32) = stepI 32 4294967295 := by
  have h1 := feed_sum l hl M (by omega)
  have hr := sumf_range (l := l.take M) (fun y hy => hl y (List.mem_of_mem_take hy))
  obtain ⟨y, hy⟩ : ∃ y, y = feed 4294967295 (bitAt l) (8 * M) := ⟨_, rfl⟩
  rw [← hy] at h1
  have hyl : y < 4294967296 := by rw [← h1] at hr; have := hr.2; omega
  have hs : sumF (l.take M) = ((4294967295 ^^^ y : Nat) : Int) := by
    unfold sumF
    rw [← h1, show (4294967295 : Int) = ((4294967295 : Nat) : Int) from rfl, u32_xor_nat _ _ (by omega) (by omega)]
  have hsl : 4294967295 ^^^ y < 4294967296 := Nat.xor_lt_two_pow (n := 32) (by omega) (by omega)
  rw [hs] at h
  rw [feedJ 4294967295 y (4294967295 ^^^ y) 32 (bitAt l) (8 * M) (fun j hj => ?_) hy.symm]
  · rw [Nat.mod_eq_of_lt (by omega), Nat.xor_comm 4294967295 y, ← Nat.xor_assoc, Nat.xor_self, Nat.zero_xor]
  · unfold bitAt
    rw [show (8 * M + j) / 8 = M + j / 8 by omega, show (8 * M + j) % 8 = j % 8 by omega, rd_tail l M (j / 8) hM (by omega), ← h, rd_four _ _ (by omega) hsl, Int.toNat_natCast]
    generalize 4294967295 ^^^ y = s
    have hj8 : 2 ^ j = 256 ^ (j / 8) * 2 ^ (j % 8) := by
      rw [show (256 : Nat) = 2 ^ 8 from rfl, ← Nat.pow_mul, ← Nat.pow_add]
      congr 1
      omega
    rw [hj8, ← Nat.div_div_eq_div_mul]
    generalize s / 256 ^ (j / 8) = u
    have : j % 8 = 0 ∨ j % 8 = 1 ∨ j % 8 = 2 ∨ j % 8 = 3 ∨ j % 8 = 4 ∨ j % 8 = 5 ∨ j % 8 = 6 ∨ j % 8 = 7 := by omega
    rcases this with e | e | e | e | e | e | e | e <;> rw [e] <;> simp only [Nat.reducePow] <;> omega
theorem bits_byte {a b : Nat} (ha : a < 256) (hb : b < 256) (h : ∀ j, j < 8 → a / 2 ^ j % 2 = b / 2 ^ j % 2) : a = b := by
  have h0 := h 0 (by omega)
  have h1 := h 1 (by omega)
  have h2 := h 2 (by omega)
  have h3 := h 3 (by omega)
  have h4 := h 4 (by omega)
  have h5 := h 5 (by omega)
  have h6 := h 6 (by omega)
  have h7 := h 7 (by omega)
  simp only [Nat.reducePow] at h0 h1 h2 h3 h4 h5 h6 h7
  omega
theorem bit_of (x r : Nat) : x / 2 ^ r % 2 = (x.testBit r).toNat := (Nat.toNat_testBit x r).symm
theorem bit_flip (c b r : Nat) : (c ^^^ 2 ^ b) / 2 ^ r % 2 = c / 2 ^ r % 2 ^^^ (if r = b then 1 else 0) := by
  rw [bit_of, bit_of, Nat.testBit_xor, Nat.testBit_two_pow]
  by_cases h : b = r
  · subst h
    cases c.testBit b <;> simp
  · rw [if_neg (fun e => h e.symm)]
    cases c.testBit r <;> simp [h]
theorem rd_set (l : List Int) (i j : Nat) (x : Int) (hi : i < l.length) : rd (l.set i x) (j : Int) = if j = i then x else rd l (j : Int) := by
  simp only [rd, Int.toNat_natCast, List.getD_eq_getElem?_getD, List.getElem?_set]
  by_cases h : j = i
  · subst h
    simp [hi]
  · rw [if_neg (fun e => h e.symm), if_neg h]
theorem bitAt_flip (l : List Int) (hl : Bytes l) (p q : Nat) (hp : p / 8 < l.length) : bitAt (l.set (p / 8) (bits .xor .u8 (rd l ((p / 8 : Nat) : Int)) ((2 ^ (p % 8) : Nat) : Int))) q = bitAt l q ^^^ (if q = p then 1 else 0) := by
  unfold bitAt
  rw [rd_set _ _ _ _ hp]
  obtain ⟨c, hc⟩ := Int.eq_ofNat_of_zero_le (bytes_rd hl (p / 8) hp).1
  have hc2 := (bytes_rd hl (p / 8) hp).2
  have h2 : 2 ^ (p % 8) < 2 ^ 8 := Nat.pow_lt_pow_right (by omega) (by omega)
  by_cases h : q / 8 = p / 8
  · rw [if_pos h, h, hc, u8_xor_nat _ _ (by omega) (by omega), Int.toNat_natCast, Int.toNat_natCast, bit_flip]
    congr 1
    by_cases e : q = p
    · subst e; simp
    · rw [if_neg e, if_neg (by omega)]
  · rw [if_neg h, if_neg (by intro e; subst e; exact h rfl), Nat.xor_zero]
theorem flip_bytes {l : List Int} (hl : Bytes l) (p : Nat) (hp : p / 8 < l.length) : Bytes (l.set (p / 8) (bits .xor .u8 (rd l ((p / 8 : Nat) : Int)) ((2 ^ (p % 8) : Nat) : Int))) := fun y hy => by
  rcases List.mem_or_eq_of_mem_set hy with h1 | rfl
  · exact hl y h1
  · obtain ⟨c, hc⟩ := Int.eq_ofNat_of_zero_le (bytes_rd hl (p / 8) hp).1
    have hc2 := (bytes_rd hl (p / 8) hp).2
    have h2 : 2 ^ (p % 8) < 2 ^ 8 := Nat.pow_lt_pow_right (by omega) (by omega)
    rw [hc, u8_xor_nat _ _ (by omega) (by omega)]
    have := Nat.xor_lt_two_pow (x := c) (y := 2 ^ (p % 8)) (n := 8) (by omega) h2
    constructor <;> omega
/-- The turned bits, below number j of the span. -/
def dm (P0 T j q : Nat) : Nat := if P0 ≤ q ∧ q < P0 + j then T / 2 ^ (q - P0) % 2 else 0
theorem dm_step (P0 T j q : Nat) : dm P0 T (j + 1) q = dm P0 T j q ^^^ (if q = P0 + j then T / 2 ^ j % 2 else 0) := by
  unfold dm
  by_cases h : q = P0 + j
  · subst h
    rw [if_pos ⟨by omega, by omega⟩, if_neg (by omega), if_pos rfl, Nat.zero_xor, show P0 + j - P0 = j by omega]
  · rw [if_neg h, Nat.xor_zero]
    by_cases h2 : P0 ≤ q ∧ q < P0 + j
    · rw [if_pos h2, if_pos ⟨by omega, by omega⟩]
    · rw [if_neg h2, if_neg (by omega)]
theorem low_step (T j : Nat) : (T % 2 ^ (j + 1) ≠ 0) ↔ (T % 2 ^ j ≠ 0 ∨ T / 2 ^ j % 2 = 1) := by
  have h1 : T % 2 ^ (j + 1) = T % 2 ^ j + 2 ^ j * (T / 2 ^ j % 2) := by rw [Nat.pow_succ, Nat.mod_mul]
  have hp : 0 < 2 ^ j := Nat.two_pow_pos j
  rcases Nat.mod_two_eq_zero_or_one (T / 2 ^ j) with e | e <;> rw [h1, e]
  · simp
  · simp only [Nat.mul_one, or_true, iff_true]
    omega
end Go.Proofs.YtaonjmkfbfhanaaDoor.G
/- A block's bytes of which some bits were turned, and first parts of them, are no block (plain laws; this claim's own). -/
namespace Go.Proofs.YtaonjmkfbfhanaaDoor.Bk
open Go.RowKit Go.Proofs.YtaonjmkfbfhanaaDoorW.PrintWords Go.Proofs.YtaonjmkfbfhanaaDoor.Own Go.Proofs.YtaonjmkfbfhanaaDoor.G Go.Proofs.YtaonjmkfbfhanaaDoor.U
set_option linter.unusedVariables false
theorem bytesM_whole (m : Mk) (M : Nat) (hM : M = (bodyM m).length) : fourL (sumF ((bytesM m).take M)) = ((bytesM m).take (M + 4)).drop M := by
  subst hM
  unfold bytesM
  rw [List.take_left, List.take_of_length_le (Nat.le_of_eq (by rw [List.length_append, four_len])), List.drop_left]
/-- Bits turned within a span of 32. -/
theorem turned_none {b l : List Int} (hb : Bytes b) (hl : Bytes l) (hlen : l.length = b.length) {m : Mk} (hm : bytesM m = b) (d : Nat → Nat) (hd : ∀ q, q < 8 * l.length → bitAt l q = bitAt b q ^^^ d q) (P0 J T : Nat) (hT : T < 4294967296) (hPJ : P0 + J = 8 * l.length) (h0 : ∀ q, q < P0 → d q = 0) (hbu : ∀ j, j < J → d (P0 + j) = T / 2 ^ j % 2) (hne : T % 2 ^ J ≠ 0) : openB l = none := by
  cases ho : openB l with
  | none => rfl
  | some LR =>
    exfalso
    obtain ⟨L, R⟩ := LR
    obtain ⟨_, _, m', _, hm'⟩ := open_form ho
    have q1 : (bodyM m').length + 4 = l.length := by rw [← hm', bytesM_len, body_len]
    have q2 : (bodyM m).length + 4 = b.length := by rw [← hm, bytesM_len, body_len]
    have he : (bodyM m').length = (bodyM m).length := by omega
    have w1 := feed_whole l hl _ q1 (by rw [← hm']; exact bytesM_whole m' _ rfl)
    have w2 := feed_whole b hb _ q2 (by rw [← hm]; exact bytesM_whole m _ rfl)
    rw [he] at w1
    have w3 := feed_burst_ne d P0 J T hT h0 hbu hne
    obtain ⟨N, hN⟩ : ∃ N, N = 8 * (bodyM m).length + 32 := ⟨_, rfl⟩
    rw [show P0 + J = N by omega] at w3
    rw [← hN] at w1 w2
    obtain ⟨K, hK⟩ : ∃ K, K = stepI 32 4294967295 := ⟨_, rfl⟩
    rw [← hK] at w1 w2
    apply w3
    have w4 := feed_xor 4294967295 4294967295 (bitAt b) (bitAt l) N
    generalize hX : (4294967295 : Nat) = X at w1 w2 w4
    have w5 : feed (X ^^^ X) (fun q => bitAt b q ^^^ bitAt l q) N = 0 := by rw [w4, w2, w1, Nat.xor_self]
    rw [Nat.xor_self] at w5
    refine Eq.trans (feed_congr 0 d _ N (fun q hq => ?_)) w5
    rw [hd q (by omega), ← Nat.xor_assoc, Nat.xor_self, Nat.zero_xor]
/-- What stands behind the entries. -/
def tailM (m : Mk) : List Int := (m.places.flatMap fun (p : Nat) => fourL (p : Int)) ++ (fourL (m.places.length : Int) ++ fourL (sumF (bodyM m)))
theorem bytesM_tail (m : Mk) : bytesM m = m.data ++ tailM m := by
  unfold bytesM tailM
  conv => lhs; lhs; unfold bodyM
  simp only [List.append_assoc]
theorem places_facts (r : Int) (l : List En) : ((pushAll (newM r) l).places = [] ∨ ∃ ps, (pushAll (newM r) l).places = 0 :: ps) ∧ ∀ (j p : Nat), (pushAll (newM r) l).places[j]? = some p → 3 * j ≤ p ∧ p ≤ (pushAll (newM r) l).data.length := by
  refine snoc_rec (P := fun l => ((pushAll (newM r) l).places = [] ∨ ∃ ps, (pushAll (newM r) l).places = 0 :: ps) ∧ ∀ (j p : Nat), (pushAll (newM r) l).places[j]? = some p → 3 * j ≤ p ∧ p ≤ (pushAll (newM r) l).data.length) ?_ ?_ l
  · refine ⟨.inl rfl, fun j p h => ?_⟩
    simp [pushAll, newM] at h
  · intro l x ⟨h1, h2⟩
    obtain ⟨p1, p2, p3, p4⟩ := places_inv r l
    have hld := len_data l (newM r)
    have hL3 : 3 * l.length ≤ (pushAll (newM r) l).data.length := by simpa [newM] using hld
    have hdl : (pushAll (newM r) l).data.length ≤ (pushM (pushAll (newM r) l) x).data.length := by
      show _ ≤ List.length (_ ++ _)
      rw [List.length_append]
      omega
    have hp : (pushM (pushAll (newM r) l) x).places = (pushAll (newM r) l).places ∨ (pushM (pushAll (newM r) l) x).places = (pushAll (newM r) l).places ++ [(pushAll (newM r) l).data.length] := by
      show (if _ then _ else _) = _ ∨ (if _ then _ else _) = _
      split
      · exact .inr rfl
      · exact .inl rfl
    rw [pushAll_snoc]
    rcases hp with hp | hp
    · rw [hp]
      exact ⟨h1, fun j p hj => ⟨(h2 j p hj).1, Nat.le_trans (h2 j p hj).2 hdl⟩⟩
    · rw [hp]
      refine ⟨.inr ?_, fun j p hj => ?_⟩
      · rcases h1 with h1 | ⟨ps, h1⟩
        · have h0 : l = [] := List.eq_nil_of_length_eq_zero (p1.1 (by rw [h1]; rfl))
          subst h0
          exact ⟨[], rfl⟩
        · exact ⟨ps ++ [(pushAll (newM r) l).data.length], by rw [h1]; rfl⟩
      · by_cases hlt : j < (pushAll (newM r) l).places.length
        · rw [List.getElem?_append_left hlt] at hj
          exact ⟨(h2 j p hj).1, Nat.le_trans (h2 j p hj).2 hdl⟩
        · rw [List.getElem?_append_right (by omega)] at hj
          have hz : j - (pushAll (newM r) l).places.length = 0 := by
            have := (List.getElem?_eq_some_iff.1 hj).1
            simp at this
            omega
          rw [hz, List.getElem?_cons_zero, Option.some.injEq] at hj
          subst hj
          exact ⟨by omega, hdl⟩
theorem four_zero : fourL (((0 : Nat)) : Int) = [0, 0, 0, 0] := rfl
theorem tail_lead (r : Int) (l : List En) : ∃ t, tailM (pushAll (newM r) l) = 0 :: 0 :: t := by
  unfold tailM
  rcases (places_facts r l).1 with h | ⟨ps, h⟩
  · rw [h]
    exact ⟨_, rfl⟩
  · rw [h, List.flatMap_cons, four_zero]
    exact ⟨_, rfl⟩
theorem num_lead {n : Nat} {y t : List Int} (h : numL n ++ y = 0 :: t) : n = 0 ∧ y = t := by
  by_cases hn : n < 128
  · rw [numL_small hn] at h
    simp only [List.singleton_append, List.cons.injEq] at h
    exact ⟨by omega, h.2⟩
  · rw [numL_big hn] at h
    simp only [List.cons_append, List.cons.injEq] at h
    omega
theorem enc_lead {n : Nat} {e : En} {y t : List Int} (hk : OkE e) : encE n e ++ y ≠ 0 :: 0 :: t := by
  intro h
  unfold encE at h
  simp only [List.append_assoc] at h
  obtain ⟨h1, h2⟩ := num_lead h
  obtain ⟨h3, h4⟩ := num_lead h2
  have := hk.1
  omega
theorem rows_same : ∀ (L L' : List En) (q q' : Mk) (Y Y' Z : List Int), (∀ e ∈ L, OkE e) → (∀ e ∈ L', OkE e) → q.last = q'.last → encT q' L' ++ (0 :: 0 :: Y') ++ Z = encT q L ++ (0 :: 0 :: Y) → L = L' ∧ (encT q' L').length = (encT q L).length := by
  intro L
  induction L with
  | nil =>
    intro L' q q' Y Y' Z h1 h2 hl h
    cases L' with
    | nil => exact ⟨rfl, rfl⟩
    | cons e' l' =>
      exfalso
      have h' : encE (sharedM q' e') e' ++ (encT (pushM q' e') l' ++ (0 :: 0 :: Y') ++ Z) = 0 :: 0 :: Y := by
        rw [← show encT q [] ++ (0 :: 0 :: Y) = 0 :: 0 :: Y from rfl, ← h]
        simp only [encT, List.append_assoc]
      exact enc_lead (h2 e' (by simp)) h'
  | cons e l ih =>
    intro L' q q' Y Y' Z h1 h2 hl h
    cases L' with
    | nil =>
      exfalso
      have h' : encE (sharedM q e) e ++ (encT (pushM q e) l ++ (0 :: 0 :: Y)) = 0 :: 0 :: (Y' ++ Z) := by
        rw [← show encT q' [] ++ (0 :: 0 :: Y') ++ Z = 0 :: 0 :: (Y' ++ Z) from rfl, h]
        simp only [encT, List.append_assoc]
      exact enc_lead (h1 e (by simp)) h'
    | cons e' l' =>
      have h' : encE (sharedM q' e') e' ++ (encT (pushM q' e') l' ++ (0 :: 0 :: Y') ++ Z) = encE (sharedM q e) e ++ (encT (pushM q e) l ++ (0 :: 0 :: Y)) := by
        have z := h
        simp only [encT, List.append_assoc] at z ⊢
        exact z
      have s1 := shared_le q e
      have s2 := shared_le q' e'
      have a1 := entry_again (sharedM q e) e q.last (encT (pushM q e) l ++ (0 :: 0 :: Y)) (h1 e (by simp)) s1.1 s1.2.1 s1.2.2
      have a2 := entry_again (sharedM q' e') e' q'.last (encT (pushM q' e') l' ++ (0 :: 0 :: Y') ++ Z) (h2 e' (by simp)) s2.1 s2.2.1 s2.2.2
      rw [h', ← hl, a1] at a2
      simp only [Option.some.injEq, Prod.mk.injEq] at a2
      obtain ⟨rfl, hlen⟩ := a2
      obtain ⟨i1, i2⟩ := List.append_inj h' hlen.symm
      obtain ⟨j1, j2⟩ := ih l' (pushM q e) (pushM q' e) Y Y' Z (fun x hx => h1 x (by simp [hx])) (fun x hx => h2 x (by simp [hx])) rfl i2
      refine ⟨by rw [j1], ?_⟩
      simp only [encT, List.length_append]
      omega
theorem open_read {b : List Int} {x : List En × Nat} (h : openB b = some x) : readB b = some x := by
  unfold openB at h
  split at h
  · cases h
  · rename_i es rs hr
    split at h
    · cases h
    · split at h
      · rw [hr]; exact h
      · cases h
theorem prefix_none {r : Int} {L : List En} {m : Mk} (h : addsM (newM r) L = some m) (hw : ∀ e ∈ L, EnW e) (hb : Bytes (bytesM m)) (hs : m.data.length < 1073741824) (k : Nat) (hk : k < (bytesM m).length) : openB ((bytesM m).take k) = none := by
  cases ho : openB ((bytesM m).take k) with
  | none => rfl
  | some LR =>
    exfalso
    obtain ⟨L', R⟩ := LR
    obtain ⟨_, _, m', hm', hbm'⟩ := open_form ho
    have hw' := (readB_all (fun x hx => hb x (List.mem_of_mem_take hx)) (open_read ho)).2
    obtain ⟨e1, w1, _⟩ := adds_push L h
    obtain ⟨e2, w2, _⟩ := adds_push L' hm'
    have ok1 : ∀ e ∈ L, OkE e := fun e he => okE_of (w1 e he) (hw e he)
    have ok2 : ∀ e ∈ L', OkE e := fun e he => okE_of (w2 e he) (hw' e he)
    have d1 : m.data = encT (newM r) L := by rw [e1, pushAll_data]; rfl
    have d2 : m'.data = encT (newM (R : Int)) L' := by rw [e2, pushAll_data]; rfl
    obtain ⟨t, ht⟩ := tail_lead r L
    obtain ⟨t', ht'⟩ := tail_lead (R : Int) L'
    rw [← e1] at ht
    rw [← e2] at ht'
    have X : bytesM m' ++ (bytesM m).drop k = bytesM m := by rw [hbm', List.take_append_drop]
    have hlen' : (bytesM m').length = k := by rw [hbm', List.length_take]; omega
    obtain ⟨Z, hZ⟩ : ∃ Z, (bytesM m).drop k = Z := ⟨_, rfl⟩
    rw [hZ, bytesM_tail m', bytesM_tail m] at X
    have X' := X
    rw [ht, ht', d1, d2] at X'
    obtain ⟨hLL, hdl⟩ := rows_same L L' (newM r) (newM (R : Int)) t t' Z ok1 ok2 rfl X'
    rw [← d1, ← d2] at hdl
    rw [List.append_assoc] at X
    obtain ⟨_, XT⟩ := List.append_inj X hdl
    rw [bytesM_len] at hk hlen'
    obtain ⟨p1, _, _, p4⟩ := places_inv r L
    obtain ⟨p1', _, _, p4'⟩ := places_inv (R : Int) L'
    have hld := len_data L (newM r)
    have hL3 : 3 * L.length ≤ m.data.length := by rw [e1]; simpa [newM] using hld
    rw [← e1] at p1 p4
    rw [← e2, ← hLL] at p1' p4'
    have hc : m'.places.length < m.places.length := by omega
    obtain ⟨_, f2⟩ := places_facts r L
    rw [← e1] at f2
    have hp := f2 m'.places.length m.places[m'.places.length] (List.getElem?_eq_getElem hc)
    obtain ⟨p, hpe⟩ : ∃ p, m.places[m'.places.length] = p := ⟨_, rfl⟩
    rw [hpe] at hp
    have hsp : m.places = m.places.take m'.places.length ++ (p :: m.places.drop (m'.places.length + 1)) := by
      rw [← hpe, ← List.drop_eq_getElem_cons hc, List.take_append_drop]
    have t1 : tailM m = (m.places.take m'.places.length).flatMap (fun (p : Nat) => fourL (p : Int)) ++ (fourL (p : Int) ++ ((m.places.drop (m'.places.length + 1)).flatMap (fun (p : Nat) => fourL (p : Int)) ++ (fourL (m.places.length : Int) ++ fourL (sumF (bodyM m))))) := by
      unfold tailM
      conv => lhs; lhs; rw [hsp]
      rw [List.flatMap_append, List.flatMap_cons]
      simp only [List.append_assoc]
    have t2 : tailM m' ++ Z = m'.places.flatMap (fun (p : Nat) => fourL (p : Int)) ++ (fourL (m'.places.length : Int) ++ (fourL (sumF (bodyM m')) ++ Z)) := by
      unfold tailM
      simp only [List.append_assoc]
    have l1 : ((m.places.take m'.places.length).flatMap (fun (p : Nat) => fourL (p : Int))).length = 4 * m'.places.length := by rw [flat_len, List.length_take]; omega
    have v1 := wordL_four p (by omega) ((m.places.take m'.places.length).flatMap (fun (p : Nat) => fourL (p : Int))) ((m.places.drop (m'.places.length + 1)).flatMap (fun (p : Nat) => fourL (p : Int)) ++ (fourL (m.places.length : Int) ++ fourL (sumF (bodyM m))))
    rw [← t1, l1] at v1
    have v2 := wordL_four m'.places.length (by omega) (m'.places.flatMap (fun (p : Nat) => fourL (p : Int))) (fourL (sumF (bodyM m')) ++ Z)
    rw [← t2, flat_len, XT, v1] at v2
    omega
end Go.Proofs.YtaonjmkfbfhanaaDoor.Bk
/- The walk of BlockAgain (this claim's own lemmas). -/
namespace Go.Proofs.YtaonjmkfbfhanaaDoor.Bk
open Go.RowKit Go.Proofs.YtaonjmkfbfhanaaDoorW.PrintWords Go.Proofs.YtaonjmkfbfhanaaDoor.Own Go.Proofs.YtaonjmkfbfhanaaDoor.G Go.Proofs.YtaonjmkfbfhanaaDoor.Wk Go.Proofs.YtaonjmkfbfhanaaDoor.QBo
set_option linter.unusedVariables false
theorem givenAll (L : List En) : givenL (-1) L = L := by unfold givenL; rw [if_neg (by decide), if_neg (by decide)]
theorem made_good {r : Int} : ∀ (l : List En) (m : Mk) (k : Nat), GoodM r m k → (∀ e ∈ l, EnW e) → GoodM r (madeM m l).2 (k + (madeM m l).1.length) := by
  intro l
  induction l with
  | nil => intro m k h _; exact h
  | cons e l ih =>
    intro m k h hw
    unfold madeM
    by_cases h0 : (addM m e).1 = 0
    · rw [if_pos h0]
      have z := ih (addM m e).2 (k + 1) (goodM_step h h0 (hw e (by simp))) (fun x hx => hw x (by simp [hx]))
      show GoodM r (madeM (addM m e).2 l).2 (k + (_ :: (madeM (addM m e).2 l).1).length)
      rw [List.length_cons, show k + ((madeM (addM m e).2 l).1.length + 1) = k + 1 + (madeM (addM m e).2 l).1.length by omega]
      exact z
    · rw [if_neg h0, addM_no h0]
      exact ih m k h (fun x hx => hw x (by simp [hx]))
theorem bytesM_small {r : Int} {m : Mk} {k : Nat} (h : GoodM r m k) : (bytesM m).length ≤ 704 * k + 8 := by
  rw [bytesM_len]
  have h1 := h.data
  have h2 := h.places
  omega
theorem made_small (r : Int) (l : List En) (hw : ∀ e ∈ l, EnW e) : GoodM r (madeM (newM r) l).2 (madeM (newM r) l).1.length := by
  have z := made_good l (newM r) 0 (goodM_new r) hw
  rwa [Nat.zero_add] at z
set_option maxHeartbeats 8000000 in
set_option maxRecDepth 100000 in
theorem again_walk {w : World} {A0 : Option Addr} {n0 c0 : Nat} {b : List Int} (hr0 : Rd (Kd.int .u8) w A0 n0 c0 b) (hb : Bytes b) (hT : GT w) :
    Calls Tryd.prog 7 #[.slice A0 n0 c0] w fun e w' => e = .returned (.bool true) ∧ Below w.heap.size w w' := by
  have hn : b.length = n0 := hr0.1
  have HR := Aside0.mk hr0
  have HB := Aside0.mk hb
  have HT := Aside0.mk hT
  have HRf := Aside0.mk (Below.refl w.heap.size w)
  clear hr0 hb hT
  go_enter Tryd.func7, Tryd.ntmps7
  by_cases h4 : n0 ≤ 4096
  · go_wp2_with fail
    refine (known_calls HT.out).mono ?_
    rintro en W1 ⟨rfl, hb1⟩
    have HB1 := Aside0.mk hb1
    have HR1 := Aside0.mk (HR.out.step hb1)
    have HT1 := Aside0.mk (HT.out.below hb1)
    obtain ⟨q, hq⟩ : ∃ q, openB b = q := ⟨_, rfl⟩
    have HOp := Aside0.mk (open_calls HR1.out HB.out (by omega) HT1.out)
    rw [hq] at HOp
    have HQ := Aside0.mk hq
    clear hb1 hq
    cases q with
    | none =>
      go_wp2_with fail
      refine HOp.out.mono ?_
      rintro en W2 ⟨he, hb2⟩
      have he' : en = .returned (.tuple #[.pointer none, .int .i64 91]) := he
      subst he'
      have HB2 := Aside0.mk (below_step HB1.out hb2)
      clear he hb2
      go_wp2_with fail
      refine (num_calls 91 W2).mono ?_
      rintro en W3 ⟨rfl, rfl⟩
      go_wp2_with fail
      refine (num_calls 91 _).mono ?_
      rintro en W4 ⟨rfl, rfl⟩
      go_wp2_with fail
      go_ret
      exact ⟨rfl, HB2.out⟩
    | some LR =>
      obtain ⟨L, R⟩ := LR
      obtain ⟨hLn, hLe⟩ := readB_all HB.out (open_read HQ.out)
      obtain ⟨hR1, hRL, hRb, hRa⟩ := again_law HQ.out
      have HLe := Aside0.mk hLe
      have HRb := Aside0.mk hRb
      have HRa := Aside0.mk hRa
      clear hLe hRb hRa
      go_wp2_with fail
      refine HOp.out.mono ?_
      rintro en W2 ⟨⟨g, rfl, hK⟩, hb2⟩
      have HB2 := Aside0.mk (below_step HB1.out hb2)
      have HK := Aside0.mk hK
      clear hb2 hK
      go_wp2_with fail
      refine (num_calls 0 W2).mono ?_
      rintro en W3 ⟨rfl, rfl⟩
      go_wp2_with fail
      obtain ⟨Ak, nk, ck, k1, k2, k3⟩ := HK.out
      obtain ⟨hk1, hk2, hk3⟩ := Kd.R_reads' k3
      have hke : nk = L.length := by omega
      subst hke
      have kc0 : W3.cell? ⟨g, 0, none⟩ = some (.slice Ak L.length ck) := by rw [blk_cell k1]; rfl
      refine (given_calls g L.length ck Ak L (-1) W3 (by omega) kc0 hk3).mono ?_
      clear kc0 k1 k2 k3 hk1 hk2 hk3
      rintro en W4 ⟨v4, rfl, hr4, hb4⟩
      rw [givenAll] at hr4
      obtain ⟨A4, q4, e4⟩ := Kd.R_slice hr4
      subst e4
      have HR4 := Aside0.mk (Kd.R_reads' hr4)
      have HB4 := Aside0.mk (below_step HB2.out hb4)
      clear hr4 hb4
      go_wp2_with fail
      go_loopw [6] (fun s6 wr => ∃ r : Nat, s6 = .int .i64 (r : Int) ∧ 1 ≤ r ∧ r ≤ R ∧ Aside0 (Below w.heap.size w wr) ∧ Aside0 (Below W4.heap.size W4 wr)) (fun s6 _ => R + 1 - (intOf s6).toNat)
      case atStart => exact ⟨1, rfl, Nat.le_refl _, hR1, HB4, ⟨Below.refl _ _⟩⟩
      case round =>
        obtain ⟨r, rfl, h1, hr, HBr, HBq⟩ := hrel
        have HC := Aside0.mk (Kd.C_below HR4.out.2.2 HBq.out)
        have HMd := Aside0.mk (made_calls (c := q4) (r : Int) (by omega) HC.out HLe.out (by omega) (HT.out.below HBr.out))
        have HS : Aside0 ((bytesM (madeM (newM (r : Int)) L).2).length ≤ 1000000000) := ⟨by have z := bytesM_small (made_small (r : Int) L HLe.out); rw [HRa.out] at z; omega⟩
        have hor : r ≤ L.length ∨ ¬ r ≤ L.length ∧ r = 1 := by omega
        rcases hor with hl1 | ⟨hl1, hr1e⟩
        rotate_left
        have d40 : ((r : Int) == 1) = true := by rw [hr1e]; rfl
        have HR1e := Aside0.mk hr1e
        clear hr1e
        rotate_left
        all_goals
          go_wp2_with fail
          refine HMd.out.mono ?_
          rintro en W5 ⟨A5, n5, c5, v5, rfl, hd5, hr5, hb5⟩
          rw [HRa.out] at hr5
          obtain ⟨A6, q6, e6⟩ := Kd.R_slice hr5
          subst e6
          have HB5 := Aside0.mk (below_step HBr.out hb5)
          have HBq5 := Aside0.mk (below_step HBq.out hb5)
          have HD5 := Aside0.mk hd5
          have HR5 := Aside0.mk (Kd.R_reads' hr5)
          clear hb5 hd5 hr5
          go_wp2_with fail
          refine (sameEntries_calls HR5.out.2.2 HR5.out.2.1 (Kd.C_below HR4.out.2.2 HBq5.out) HR4.out.2.1 (by omega)).mono ?_
          rintro en W6 ⟨rfl, hb6⟩
          have HB6 := Aside0.mk (below_step HB5.out hb6)
          have HBq6 := Aside0.mk (below_step HBq5.out hb6)
          have HD6 := Aside0.mk (HD5.out.step hb6)
          have HRr := Aside0.mk (HR.out.step HB6.out)
          clear hb6
          go_wp2_with fail
          refine (same_calls HD6.out HRr.out HS.out).mono ?_
          rintro en W7 ⟨he7, hb7⟩
          have HB7 := Aside0.mk (below_step HB6.out hb7)
          have HBq7 := Aside0.mk (below_step HBq6.out hb7)
          clear hb7
          by_cases hs : bytesM (madeM (newM (r : Int)) L).2 = b
          · rw [decide_eq_true hs] at he7
            subst he7
            clear hs
            go_wp2_with fail
            go_ret
            exact ⟨rfl, HB7.out⟩
          · rw [decide_eq_false hs] at he7
            subst he7
            have hlt : r < R := by
              rcases Nat.lt_or_ge r R with h | h
              · exact h
              · exact absurd (by rw [show r = R by omega]; exact HRb.out) hs
            clear hs
            go_wp2_with fail
            go_roundw
            case rel => exact ⟨r + 1, by go_num, by omega, by omega, HB7, HBq7⟩
            case measure => simp [intOf]; omega
  · go_wp2_with fail
    go_ret
    exact ⟨rfl, HRf.out⟩
end Go.Proofs.YtaonjmkfbfhanaaDoor.Bk
namespace Go.Proofs.YtaonjmkfbfhanaaDoor.BlockAgain
open Go.RowKit Go.Proofs.YtaonjmkfbfhanaaDoorW.PrintWords Go.Proofs.YtaonjmkfbfhanaaDoor.Own Go.Proofs.YtaonjmkfbfhanaaDoor.Wk Go.Proofs.YtaonjmkfbfhanaaDoor.QBo
set_option linter.unusedVariables false
theorem walk (A0 : Option Addr) (c0 : Nat) (l0 : List Int) {w' : World} (hr0 : (Kd.int .u8).C w' A0 l0.length l0) (hc0 : l0.length ≤ c0) (hw0 : ∀ x ∈ l0, (Lit.int .u8 x).wf = true) (y0 : l0.length * 1 ≤ 140737488351232) (w : World) (hT : GT w) (e : w' = w := by rfl) :
    Calls Tryd.prog 7 #[.slice A0 l0.length c0] w fun e w' => e = .returned (.bool true) ∧ Below w.heap.size w w' := by
  subst e
  exact Bk.again_walk ⟨rfl, hc0, hr0⟩ (bytes_wf hw0) hT
end Go.Proofs.YtaonjmkfbfhanaaDoor.BlockAgain
-- Printed by a program of this claim's own out of the translation.
namespace Go.Proofs.YtaonjmkfbfhanaaDoor.QBo
open Go.Proofs.YtaonjmkfbfhanaaDoor.Own
open Go.RowKit Go.Proofs.YtaonjmkfbfhanaaDoorW.PrintWords Go.Proofs.YtaonjmkfbfhanaaDoorW.PrintLast Go.Proofs.YtaonjmkfbfhanaaDoorW.PrintMore
attribute [local go_sem] max2_int min2_int max_two min_two max_three min_three max_four min_four   -- for this text's walks alone
set_option linter.unusedVariables false
set_option linter.unusedSimpArgs false

/-! ### screeroom_Count_Entries: function 31 -/
mutual
def screeroom_Count_Entries.l0 : Nat → List (S30) → Int → Int → Option (Int)
  | 0, _, _, _ => none
  | k + 1, x1, x4, x1000 => if x4 < (x1.length : Int) then ((screeroom_Count_Ok.f x1000).bind fun bt405 => (screeroom_Count_Entries.j1 k x1 x4 bt405.1 bt405.2)) else (screeroom_Count_Entries.j1 k x1 x4 false x1000)
def screeroom_Count_Entries.j1 : Nat → List (S30) → Int → Bool → Int → Option (Int)
  | 0, _, _, _, _ => none
  | k + 1, x1, x4, x12, x1000 => if x12 = true then (if 0 ≤ x4 then (if x4 < (x1.length : Int) then ((screeroom_Count_Text.f x1000 ((rd_T30 x1 x4).f0)).bind fun t408 => ((screeroom_Count_Add.f t408 (((rd_T30 x1 x4).f3).size : Int)).bind fun bt410 => (screeroom_Count_Entries.l0 k x1 (wrap64 (x4 + 1)) bt410.2))) else (none)) else (none)) else (some x1000)
end
def screeroom_Count_Entries.f (k : Nat) (s0_0 : Int) (l1 : List (S30)) : Option (Int) := screeroom_Count_Entries.l0 k l1 0 s0_0
theorem screeroom_Count_Entries.mono_l : ∀ k, (∀ y0 y1 y2, LeO (screeroom_Count_Entries.l0 k y0 y1 y2) (screeroom_Count_Entries.l0 (k + 1) y0 y1 y2)) ∧ (∀ y0 y1 y2 y3, LeO (screeroom_Count_Entries.j1 k y0 y1 y2 y3) (screeroom_Count_Entries.j1 (k + 1) y0 y1 y2 y3))
  | 0 => ⟨fun _ _ _ r h => by simp [screeroom_Count_Entries.l0] at h, fun _ _ _ _ r h => by simp [screeroom_Count_Entries.j1] at h⟩
  | k + 1 => by
    obtain ⟨ih0, ih1⟩ := screeroom_Count_Entries.mono_l k
    refine ⟨?_, ?_⟩
    · intro y0 y1 y2
      unfold screeroom_Count_Entries.l0
      repeat' first
      | (with_reducible exact ih0 _ _ _)
      | (with_reducible exact ih1 _ _ _ _)
      | (with_reducible exact LeO.refl _)
      | (with_reducible exact LeO.none _)
      | (with_reducible refine LeO.ite ?_ ?_)
      | (with_reducible refine LeO.bind ?_ (fun _ => ?_))
      | exact ih0 _ _ _
      | exact ih1 _ _ _ _
      | exact LeO.none _
      | refine LeO.ite ?_ ?_
      | refine LeO.bind ?_ (fun _ => ?_)
    · intro y0 y1 y2 y3
      unfold screeroom_Count_Entries.j1
      repeat' first
      | (with_reducible exact ih0 _ _ _)
      | (with_reducible exact ih1 _ _ _ _)
      | (with_reducible exact LeO.refl _)
      | (with_reducible exact LeO.none _)
      | (with_reducible refine LeO.ite ?_ ?_)
      | (with_reducible refine LeO.bind ?_ (fun _ => ?_))
      | exact ih0 _ _ _
      | exact ih1 _ _ _ _
      | exact LeO.none _
      | refine LeO.ite ?_ ?_
      | refine LeO.bind ?_ (fun _ => ?_)
theorem screeroom_Count_Entries.mono : ∀ a0 a1 k, LeO (screeroom_Count_Entries.f k a0 a1) (screeroom_Count_Entries.f (k + 1) a0 a1) := by
  intro a0 a1 k
  obtain ⟨ih0, ih1⟩ := screeroom_Count_Entries.mono_l k
  unfold screeroom_Count_Entries.f
  repeat' first
      | (with_reducible exact ih0 _ _ _)
      | (with_reducible exact ih1 _ _ _ _)
      | (with_reducible exact LeO.refl _)
      | (with_reducible exact LeO.none _)
      | (with_reducible refine LeO.ite ?_ ?_)
      | (with_reducible refine LeO.bind ?_ (fun _ => ?_))
      | exact ih0 _ _ _
      | exact ih1 _ _ _ _
      | exact LeO.none _
      | refine LeO.ite ?_ ?_
      | refine LeO.bind ?_ (fun _ => ?_)
set_option maxHeartbeats 8000000 in
set_option maxRecDepth 100000 in
theorem screeroom_Count_Entries.calls (k : Nat) (g : Nat) (s0_0 : Int) (A1 : Option Addr) (c1 : Nat) (l1 : List (S30)) (r : Int) (w0 w : World) (hI : IsS91 w0 w g s0_0) (hB : Below w0.heap.size w0 w) (hr1 : ∀ W_, KeepBut w W_ g none → Kd.C k30 W_ A1 l1.length l1) (hc1 : l1.length ≤ c1) (h : screeroom_Count_Entries.f k s0_0 l1 = some r) :
    Calls Tryd.prog 31 #[.pointer (some ⟨g, 0, none⟩), .slice A1 l1.length c1] w fun e w' => e = .returned (.tuple #[]) ∧ IsS91 w0 w' g r ∧ Below w0.heap.size w0 w' ∧ KeepBut w w' g none := by
  have HR1 := Aside0.mk hr1
  have HC1 := Aside0.mk hc1
  clear hr1 hc1
  have HI0 := Aside0.mk hI
  have HK := Aside0.mk (KeepBut.refl w g none)
  have HL := Aside0.mk hB.size
  clear hI
  have HW0 := Aside0.mk hB.size
  have HB := Aside0.mk hB
  clear hB
  have H : (screeroom_Count_Entries.l0 k l1 0 s0_0) = some r := h
  clear h
  have H' := Aside0.mk H
  clear H
  go_enter Tryd.func31, Tryd.ntmps31
  go_wp2
  go_loopg [4] k (fun kq v4 w' => ∃ (x4_1 : Int) (x1000_1 : Int), v4 = .int .i64 x4_1 ∧ Aside0 (screeroom_Count_Entries.l0 kq l1 x4_1 x1000_1 = some r) ∧ Aside0 (kq ≤ k) ∧ Aside0 (IsS91 w0 w' g x1000_1) ∧ Aside0 (KeepBut w w' g none) ∧ Aside0 (Below w0.heap.size w0 w'))
  case atStart => exact ⟨(0), (s0_0), (by first | rfl | (simp; done) | (simp [*]; done)), H', ⟨Nat.le_refl _⟩, ⟨by repeat (first | (with_reducible first | exact HI0.out | apply IsS91.alloc | apply IsS91.drewN | apply IsS91.drew | apply IsS91.set_0) | exact HI0.out)⟩, ⟨by repeat (first | (with_reducible first | exact HK.out | apply KeepBut.set_ | apply keep_drewN | apply keep_drew | apply keep_alloc) | exact HK.out)⟩, ⟨by repeat (first | (with_reducible first | exact HB.out | apply below_alloc | apply pw_below_drewN | apply below_drew1 | refine below_set ?_ (IsS91.ge HI0.out)) | exact HB.out)⟩⟩
  case round =>
    clear H'
    try clear c1
    try clear p2
    obtain ⟨x4_1, x1000_1, rfl, HA, HK1, HI0, HK, HB⟩ := hrel
    cases gk with
    | zero => exact absurd HA.out (by simp [screeroom_Count_Entries.l0])
    | succ k1 =>
      have H := HA.out
      clear HA
      simp only [screeroom_Count_Entries.l0] at H
      have HC3 := Aside0.mk H
      clear H
      go_upto_region 1 with (fail)
      (try (obtain ⟨tb1_, hTB1_⟩ : ∃ tb_ : Bool, (decide (x4_1 < (l1.length : Int))) = tb_ := ⟨_, rfl⟩; simp only [hTB1_]; have TB1_ := Aside0.mk hTB1_; clear hTB1_))
      go_cut [12] (fun v12 wc => ∃ (kq : Nat) (x12_2 : Bool) (x1000_2 : Int), v12 = .bool x12_2 ∧ Aside0 (screeroom_Count_Entries.j1 kq l1 x4_1 x12_2 x1000_2 = some r) ∧ Aside0 (kq ≤ k1) ∧ Aside0 (IsS91 w0 wc g x1000_2) ∧ Aside0 (KeepBut w wc g none) ∧ Aside0 (Below w0.heap.size w0 wc))
      case first =>
        have H := HC3.out
        clear HC3
        by_cases c4 : x4_1 < (l1.length : Int)
        · rw [if_pos c4] at H
          have c4b0 : decide (x4_1 < (l1.length : Int)) = true := decide_eq_true c4
          (try (obtain rfl := TB1_.out.symm.trans c4b0))
          clear c4
          (first | rw [c4b0] | (simp only [i64_w, i32_w]; rw [c4b0]) | skip)
          replace H := Option.bind_eq_some_iff.mp H
          obtain ⟨⟨t405, t406⟩, A50, H⟩ := H
          replace H : (screeroom_Count_Entries.j1 k1 l1 x4_1 t405 t406) = some r := H
          have A5 := Aside0.mk A50
          clear A50
          have H' := Aside0.mk H
          clear H
          go_wp2_with (first | (go_at_call 15; (with_reducible refine (screeroom_Count_Ok.calls g x1000_1 t405 t406 w0 _ ?side1 ?side2 A5.out).mono ?_); (case side1 => repeat (first | (with_reducible first | exact HI0.out | apply IsS91.alloc | apply IsS91.drewN | apply IsS91.drew | apply IsS91.set_0) | exact HI0.out)); (case side2 => repeat (first | (with_reducible first | exact HB.out | apply below_alloc | apply pw_below_drewN | apply below_drew1 | refine below_set ?_ (IsS91.ge HI0.out)) | exact HB.out)); rintro e w6 ⟨rfl, hi, hb, hk⟩; have n0_ := Aside0.mk (KeepBut.trans (by repeat (first | (with_reducible first | exact HK.out | apply KeepBut.set_ | apply keep_drewN | apply keep_drew | apply keep_alloc) | exact HK.out)) hk (.inl rfl)); have n1_ := Aside0.mk (hb); have n2_ := Aside0.mk (hi); clear HK; clear HB; clear HI0; have HK := n0_; have HB := n1_; have HI0 := n2_; clear n0_ n1_ n2_; (try clear hb); (try clear hb2); (try clear hk); (try clear hi)))
          go_meet
          case rel => exact ⟨_, (t405), (t406), (by first | rfl | (simp; done) | (simp [*]; done)), H', ⟨by have := HK1.out; first | omega | exact Nat.le_refl _⟩, ⟨by repeat (first | (with_reducible first | exact HI0.out | apply IsS91.alloc | apply IsS91.drewN | apply IsS91.drew | apply IsS91.set_0) | exact HI0.out)⟩, ⟨by repeat (first | (with_reducible first | exact HK.out | apply KeepBut.set_ | apply keep_drewN | apply keep_drew | apply keep_alloc) | exact HK.out)⟩, ⟨by repeat (first | (with_reducible first | exact HB.out | apply below_alloc | apply pw_below_drewN | apply below_drew1 | refine below_set ?_ (IsS91.ge HI0.out)) | exact HB.out)⟩⟩
        · rw [if_neg c4] at H
          have c4b0 : decide (x4_1 < (l1.length : Int)) = false := decide_eq_false c4
          (try (obtain rfl := TB1_.out.symm.trans c4b0))
          clear c4
          (first | rw [c4b0] | (simp only [i64_w, i32_w]; rw [c4b0]) | skip)
          have H' := Aside0.mk H
          clear H
          go_wp2
          go_meet
          case rel => exact ⟨_, (false), (x1000_1), (by first | rfl | (simp; done) | (simp [*]; done)), H', ⟨by have := HK1.out; first | omega | exact Nat.le_refl _⟩, ⟨by repeat (first | (with_reducible first | exact HI0.out | apply IsS91.alloc | apply IsS91.drewN | apply IsS91.drew | apply IsS91.set_0) | exact HI0.out)⟩, ⟨by repeat (first | (with_reducible first | exact HK.out | apply KeepBut.set_ | apply keep_drewN | apply keep_drew | apply keep_alloc) | exact HK.out)⟩, ⟨by repeat (first | (with_reducible first | exact HB.out | apply below_alloc | apply pw_below_drewN | apply below_drew1 | refine below_set ?_ (IsS91.ge HI0.out)) | exact HB.out)⟩⟩
      case rest =>
        clear HC3
        try clear c1
        try clear p2
        try clear c3
        try clear c4
        try clear c4b0
        try clear p2
        obtain ⟨kq, x12_2, x1000_2, rfl, HA, HJ2, HI0, HK, HB⟩ := hcut
        cases kq with
        | zero => exact absurd HA.out (by simp [screeroom_Count_Entries.j1])
        | succ kj2 =>
          have H := HA.out
          clear HA
          simp only [screeroom_Count_Entries.j1] at H
          by_cases c7 : x12_2 = true
          · subst c7
            have H1 : (if 0 ≤ x4_1 then (if x4_1 < (l1.length : Int) then ((screeroom_Count_Text.f x1000_2 ((rd_T30 l1 x4_1).f0)).bind fun t408 => ((screeroom_Count_Add.f t408 (((rd_T30 l1 x4_1).f3).size : Int)).bind fun bt410 => (screeroom_Count_Entries.l0 kj2 l1 (wrap64 (x4_1 + 1)) bt410.2))) else (none)) else (none)) = some r := by rw [if_pos rfl] at H; exact H
            clear H
            have H := H1
            clear H1
            by_cases c8 : 0 ≤ x4_1
            · rw [if_pos c8] at H
              have c8b0 : decide (0 ≤ x4_1) = true := decide_eq_true c8
              clear c8
              by_cases c9 : x4_1 < (l1.length : Int)
              · rw [if_pos c9] at H
                have c9b0 : decide (x4_1 < (l1.length : Int)) = true := decide_eq_true c9
                clear c9
                replace H := Option.bind_eq_some_iff.mp H
                obtain ⟨t408, A100, H⟩ := H
                replace H : ((screeroom_Count_Add.f t408 (((rd_T30 l1 x4_1).f3).size : Int)).bind fun bt410 => (screeroom_Count_Entries.l0 kj2 l1 (wrap64 (x4_1 + 1)) bt410.2)) = some r := H
                have A10 := Aside0.mk A100
                clear A100
                replace H := Option.bind_eq_some_iff.mp H
                obtain ⟨⟨t410, t411⟩, A110, H⟩ := H
                replace H : (screeroom_Count_Entries.l0 kj2 l1 (wrap64 (x4_1 + 1)) t411) = some r := H
                have A11 := Aside0.mk A110
                clear A110
                have H' := Aside0.mk H
                clear H
                have p407 : 0 ≤ (x4_1 : Int) := of_decide_eq_true (by first | (with_reducible assumption) | assumption)
                have q407 : x4_1 < (l1.length : Int) := of_decide_eq_true (by first | (with_reducible assumption) | assumption)
                obtain ⟨ad407, e407, hx407_0, hx407_1, hx407_2, hx407_3⟩ := at_T30 (Kd.C_foot_now HR1.out HK.out) x4_1 p407 q407
                cases e407
                replace p407 := eq_true p407
                replace q407 := eq_true q407
                go_wp2_with (first | ((with_reducible refine gate_callee (f := 64) rfl ?_); refine goesL_ (some 21) rfl rfl Tryd.func64 (by kernel_rfl) rfl #[.pointer (some ⟨g, 0, none⟩), .string ((rd_T30 l1 x4_1).f0)] rfl (by (try simp only [List.map_toArray, List.map_cons, List.map_nil]); first | done | rfl | (simp only [List.length_drop, List.length_take]; rfl)) ?_; (with_reducible refine (screeroom_Count_Text.calls g x1000_2 ((rd_T30 l1 x4_1).f0) t408 w0 _ ?side1 ?side2 A10.out).mono ?_); (case side1 => repeat (first | (with_reducible first | exact HI0.out | apply IsS91.alloc | apply IsS91.drewN | apply IsS91.drew | apply IsS91.set_0) | exact HI0.out)); (case side2 => repeat (first | (with_reducible first | exact HB.out | apply below_alloc | apply pw_below_drewN | apply below_drew1 | refine below_set ?_ (IsS91.ge HI0.out)) | exact HB.out)); rintro e w12 ⟨rfl, hi, hb, hk⟩; refine ⟨_, rfl, ?_⟩; have n0_ := Aside0.mk (KeepBut.trans (by repeat (first | (with_reducible first | exact HK.out | apply KeepBut.set_ | apply keep_drewN | apply keep_drew | apply keep_alloc) | exact HK.out)) hk (.inl rfl)); have n1_ := Aside0.mk (hb); have n2_ := Aside0.mk (hi); clear HK; clear HB; clear HI0; have HK := n0_; have HB := n1_; have HI0 := n2_; clear n0_ n1_ n2_; (try clear hb); (try clear hb2); (try clear hk); (try clear hi); have p409 : 0 ≤ (x4_1 : Int) := of_decide_eq_true (by first | (with_reducible assumption) | assumption); have q409 : x4_1 < (l1.length : Int) := of_decide_eq_true (by first | (with_reducible assumption) | assumption); obtain ⟨ad409, e409, hx409_0, hx409_1, hx409_2, hx409_3⟩ := at_T30 (Kd.C_foot_now HR1.out HK.out) x4_1 p409 q409; obtain rfl : ad407 = ad409 := (by injection e409); replace p409 := eq_true p409; replace q409 := eq_true q409) | ((with_reducible refine gate_callee (f := 38) rfl ?_); refine goesL_ (some 29) rfl rfl Tryd.func38 (by kernel_rfl) rfl #[.pointer (some ⟨g, 0, none⟩), .int .i64 (((rd_T30 l1 x4_1).f3).size : Int)] rfl (by (try simp only [List.map_toArray, List.map_cons, List.map_nil]); first | done | rfl | (simp only [List.length_drop, List.length_take]; rfl)) ?_; (with_reducible refine (screeroom_Count_Add.calls g t408 (((rd_T30 l1 x4_1).f3).size : Int) t410 t411 w0 _ ?side1 ?side2 A11.out).mono ?_); (case side1 => repeat (first | (with_reducible first | exact HI0.out | apply IsS91.alloc | apply IsS91.drewN | apply IsS91.drew | apply IsS91.set_0) | exact HI0.out)); (case side2 => repeat (first | (with_reducible first | exact HB.out | apply below_alloc | apply pw_below_drewN | apply below_drew1 | refine below_set ?_ (IsS91.ge HI0.out)) | exact HB.out)); rintro e w13 ⟨rfl, hi, hb, hk⟩; refine ⟨_, rfl, ?_⟩; have n0_ := Aside0.mk (KeepBut.trans (by repeat (first | (with_reducible first | exact HK.out | apply KeepBut.set_ | apply keep_drewN | apply keep_drew | apply keep_alloc) | exact HK.out)) hk (.inl rfl)); have n1_ := Aside0.mk (hb); have n2_ := Aside0.mk (hi); clear HK; clear HB; clear HI0; have HK := n0_; have HB := n1_; have HI0 := n2_; clear n0_ n1_ n2_; (try clear hb); (try clear hb2); (try clear hk); (try clear hi)))
                go_roundg kj2
                case measure => have := HK1.out; have := HJ2.out; omega
                case rel => exact ⟨(wrap64 (x4_1 + 1)), (t411), (by first | rfl | (simp; done) | (simp [*]; done)), H', ⟨by have := HK1.out; have := HJ2.out; omega⟩, ⟨by repeat (first | (with_reducible first | exact HI0.out | apply IsS91.alloc | apply IsS91.drewN | apply IsS91.drew | apply IsS91.set_0) | exact HI0.out)⟩, ⟨by repeat (first | (with_reducible first | exact HK.out | apply KeepBut.set_ | apply keep_drewN | apply keep_drew | apply keep_alloc) | exact HK.out)⟩, ⟨by repeat (first | (with_reducible first | exact HB.out | apply below_alloc | apply pw_below_drewN | apply below_drew1 | refine below_set ?_ (IsS91.ge HI0.out)) | exact HB.out)⟩⟩
              · rw [if_neg c9] at H
                exact absurd H (by simp)
            · rw [if_neg c8] at H
              exact absurd H (by simp)
          · replace c7 := Bool.eq_false_iff.mpr c7
            subst c7
            have H1 : (some x1000_2) = some r := by rw [if_neg (show ¬ (false = true) by decide)] at H; exact H
            clear H
            have H := H1
            clear H1
            obtain rfl := Option.some.inj H
            go_wp2
            first | go_end0 | ((try simp only [Exit.inBlock, Exit.then]); refine bodyPost_ret (results_none rfl _ _ _) rfl ?_)
            exact ⟨by first | rfl | (simp [errW_none, errW_some] <;> rfl) | (simp [*, errW_none, errW_some] <;> rfl), by repeat (first | (with_reducible first | exact HI0.out | apply IsS91.alloc | apply IsS91.drewN | apply IsS91.drew | apply IsS91.set_0) | exact HI0.out), by repeat (first | (with_reducible first | exact HB.out | apply below_alloc | apply pw_below_drewN | apply below_drew1 | refine below_set ?_ (IsS91.ge HI0.out)) | exact HB.out), by repeat (first | (with_reducible first | exact HK.out | apply KeepBut.set_ | apply keep_drewN | apply keep_drew | apply keep_alloc) | exact HK.out)⟩

/-! ### screelaw9_small: function 10 -/
def screelaw9_small.f (k : Nat) (l0 : List (S30)) : Option (Bool) := (screeroom_Many.f 32768).bind fun t412 => ((screeroom_Count_Entries.f k t412 l0).bind fun t414 => (if (l0.length : Int) ≤ 200 then ((screeroom_Count_Ok.f t414).bind fun bt415 => (some bt415.1)) else (some false)))
theorem screelaw9_small.mono : ∀ a0 k, LeO (screelaw9_small.f k a0) (screelaw9_small.f (k + 1) a0) := by
  intro a0 k
  unfold screelaw9_small.f
  repeat' first
      | (with_reducible exact screeroom_Count_Entries.mono _ _ _)
      | (with_reducible exact LeO.refl _)
      | (with_reducible exact LeO.none _)
      | (with_reducible refine LeO.ite ?_ ?_)
      | (with_reducible refine LeO.bind ?_ (fun _ => ?_))
      | exact screeroom_Count_Entries.mono _ _ _
      | exact LeO.none _
      | refine LeO.ite ?_ ?_
      | refine LeO.bind ?_ (fun _ => ?_)
set_option maxHeartbeats 8000000 in
set_option maxRecDepth 100000 in
theorem screelaw9_small.calls (k : Nat) (A0 : Option Addr) (c0 : Nat) (l0 : List (S30)) (r : Bool) (w : World) (hr0 : Kd.C k30 w A0 l0.length l0) (hc0 : l0.length ≤ c0) (h : screelaw9_small.f k l0 = some r) :
    Calls Tryd.prog 10 #[.slice A0 l0.length c0] w fun e w' => e = .returned (.bool r) ∧ Below w.heap.size w w' := by
  have HR0 := Aside0.mk hr0
  have HC0 := Aside0.mk hc0
  clear hr0 hc0
  have HB := Aside0.mk (Below.refl w.heap.size w)
  have H : ((screeroom_Many.f 32768).bind fun t412 => ((screeroom_Count_Entries.f k t412 l0).bind fun t414 => (if (l0.length : Int) ≤ 200 then ((screeroom_Count_Ok.f t414).bind fun bt415 => (some bt415.1)) else (some false)))) = some r := h
  clear h
  replace H := Option.bind_eq_some_iff.mp H
  obtain ⟨t412, A20, H⟩ := H
  replace H : ((screeroom_Count_Entries.f k t412 l0).bind fun t414 => (if (l0.length : Int) ≤ 200 then ((screeroom_Count_Ok.f t414).bind fun bt415 => (some bt415.1)) else (some false))) = some r := H
  have A2 := Aside0.mk A20
  clear A20
  replace H := Option.bind_eq_some_iff.mp H
  obtain ⟨t414, A30, H⟩ := H
  replace H : (if (l0.length : Int) ≤ 200 then ((screeroom_Count_Ok.f t414).bind fun bt415 => (some bt415.1)) else (some false)) = some r := H
  have A3 := Aside0.mk A30
  clear A30
  by_cases c4 : (l0.length : Int) ≤ 200
  · rw [if_pos c4] at H
    have c4b0 : decide ((l0.length : Int) ≤ 200) = true := decide_eq_true c4
    have c4b1 : decide (l0.length ≤ 200) = true := decide_eq_true (by omega)
    clear c4
    replace H := Option.bind_eq_some_iff.mp H
    obtain ⟨⟨t415, t416⟩, A50, H⟩ := H
    replace H : (some t415) = some r := H
    have A5 := Aside0.mk A50
    clear A50
    obtain rfl := Option.some.inj H
    go_enter Tryd.func10, Tryd.ntmps10
    go_wp2_with (first | ((with_reducible refine gate_callee (f := 13) rfl ?_); refine goesL_ (some 4) rfl rfl Tryd.func13 (by kernel_rfl) rfl #[.int .i64 32768] rfl (by (try simp only [List.map_toArray, List.map_cons, List.map_nil]); first | done | rfl | (simp only [List.length_drop, List.length_take]; rfl)) ?_; (with_reducible refine (screeroom_Many.calls 32768 t412 w _ ?side1 A2.out).mono ?_); (case side1 => repeat (first | (with_reducible first | exact HB.out | apply below_alloc | apply pw_below_drewN | apply below_drew1) | exact HB.out)); rintro e w6 ⟨g413, rfl, hi, hb, hb2⟩; refine ⟨_, rfl, ?_⟩; have n0_ := Aside0.mk (hb); have n1_ := Aside0.mk (hi); clear HB; have HB := n0_; have HI413 := n1_; clear n0_ n1_; (try clear hb); (try clear hb2); (try clear hk); (try clear hi)) | ((with_reducible refine gate_callee (f := 31) rfl ?_); refine goesL_ (some 7) rfl rfl Tryd.func31 (by kernel_rfl) rfl #[.pointer (some ⟨g413, 0, none⟩), .slice A0 l0.length c0] rfl (by (try simp only [List.map_toArray, List.map_cons, List.map_nil]); first | done | rfl | (simp only [List.length_drop, List.length_take]; rfl)) ?_; (with_reducible refine (screeroom_Count_Entries.calls k g413 t412 _ _ l0 t414 w _ ?side1 ?side2 ?side3 ?side4 A3.out).mono ?_); (case side1 => repeat (first | (with_reducible first | exact HI413.out | apply IsS91.alloc | apply IsS91.drewN | apply IsS91.drew | apply IsS91.set_0) | exact HI413.out)); (case side2 => repeat (first | (with_reducible first | exact HB.out | apply below_alloc | apply pw_below_drewN | apply below_drew1 | refine below_set ?_ (IsS91.ge HI413.out)) | exact HB.out)); (case side3 => exact Kd.C_foot_came k30_heap HR0.out (by repeat (first | (with_reducible first | exact HB.out | apply below_alloc | apply pw_below_drewN | apply below_drew1 | refine below_set ?_ (IsS91.ge HI413.out)) | exact HB.out)) (IsS91.ge HI413.out)); (case side4 => exact HC0.out); rintro e w7 ⟨rfl, hi, hb, hk⟩; refine ⟨_, rfl, ?_⟩; have n0_ := Aside0.mk (hb); have n1_ := Aside0.mk (hi); clear HB; clear HI413; have HB := n0_; have HI413 := n1_; clear n0_ n1_; (try clear hb); (try clear hb2); (try clear hk); (try clear hi)) | (go_at_call 15; (with_reducible refine (screeroom_Count_Ok.calls g413 t414 t415 t416 w _ ?side1 ?side2 A5.out).mono ?_); (case side1 => repeat (first | (with_reducible first | exact HI413.out | apply IsS91.alloc | apply IsS91.drewN | apply IsS91.drew | apply IsS91.set_0) | exact HI413.out)); (case side2 => repeat (first | (with_reducible first | exact HB.out | apply below_alloc | apply pw_below_drewN | apply below_drew1 | refine below_set ?_ (IsS91.ge HI413.out)) | exact HB.out)); rintro e w8 ⟨rfl, hi, hb, hk⟩; have n0_ := Aside0.mk (hb); have n1_ := Aside0.mk (hi); clear HB; clear HI413; have HB := n0_; have HI413 := n1_; clear n0_ n1_; (try clear hb); (try clear hb2); (try clear hk); (try clear hi)))
    go_ret
    exact ⟨by first | rfl | (simp [errW_none, errW_some] <;> rfl) | (simp [*, errW_none, errW_some] <;> rfl), by repeat (first | (with_reducible first | exact HB.out | apply below_alloc | apply pw_below_drewN | apply below_drew1 | refine below_set ?_ (IsS91.ge HI413.out)) | exact HB.out)⟩
  · rw [if_neg c4] at H
    have c4b0 : decide ((l0.length : Int) ≤ 200) = false := decide_eq_false c4
    have c4b1 : decide (l0.length ≤ 200) = false := decide_eq_false (by omega)
    clear c4
    obtain rfl := Option.some.inj H
    go_enter Tryd.func10, Tryd.ntmps10
    go_wp2_with (first | ((with_reducible refine gate_callee (f := 13) rfl ?_); refine goesL_ (some 4) rfl rfl Tryd.func13 (by kernel_rfl) rfl #[.int .i64 32768] rfl (by (try simp only [List.map_toArray, List.map_cons, List.map_nil]); first | done | rfl | (simp only [List.length_drop, List.length_take]; rfl)) ?_; (with_reducible refine (screeroom_Many.calls 32768 t412 w _ ?side1 A2.out).mono ?_); (case side1 => repeat (first | (with_reducible first | exact HB.out | apply below_alloc | apply pw_below_drewN | apply below_drew1) | exact HB.out)); rintro e w9 ⟨g413, rfl, hi, hb, hb2⟩; refine ⟨_, rfl, ?_⟩; have n0_ := Aside0.mk (hb); have n1_ := Aside0.mk (hi); clear HB; have HB := n0_; have HI413 := n1_; clear n0_ n1_; (try clear hb); (try clear hb2); (try clear hk); (try clear hi)) | ((with_reducible refine gate_callee (f := 31) rfl ?_); refine goesL_ (some 7) rfl rfl Tryd.func31 (by kernel_rfl) rfl #[.pointer (some ⟨g413, 0, none⟩), .slice A0 l0.length c0] rfl (by (try simp only [List.map_toArray, List.map_cons, List.map_nil]); first | done | rfl | (simp only [List.length_drop, List.length_take]; rfl)) ?_; (with_reducible refine (screeroom_Count_Entries.calls k g413 t412 _ _ l0 t414 w _ ?side1 ?side2 ?side3 ?side4 A3.out).mono ?_); (case side1 => repeat (first | (with_reducible first | exact HI413.out | apply IsS91.alloc | apply IsS91.drewN | apply IsS91.drew | apply IsS91.set_0) | exact HI413.out)); (case side2 => repeat (first | (with_reducible first | exact HB.out | apply below_alloc | apply pw_below_drewN | apply below_drew1 | refine below_set ?_ (IsS91.ge HI413.out)) | exact HB.out)); (case side3 => exact Kd.C_foot_came k30_heap HR0.out (by repeat (first | (with_reducible first | exact HB.out | apply below_alloc | apply pw_below_drewN | apply below_drew1 | refine below_set ?_ (IsS91.ge HI413.out)) | exact HB.out)) (IsS91.ge HI413.out)); (case side4 => exact HC0.out); rintro e w10 ⟨rfl, hi, hb, hk⟩; refine ⟨_, rfl, ?_⟩; have n0_ := Aside0.mk (hb); have n1_ := Aside0.mk (hi); clear HB; clear HI413; have HB := n0_; have HI413 := n1_; clear n0_ n1_; (try clear hb); (try clear hb2); (try clear hk); (try clear hi)))
    go_ret
    exact ⟨by first | rfl | (simp [errW_none, errW_some] <;> rfl) | (simp [*, errW_none, errW_some] <;> rfl), by repeat (first | (with_reducible first | exact HB.out | apply below_alloc | apply pw_below_drewN | apply below_drew1 | refine below_set ?_ (IsS91.ge HI413.out)) | exact HB.out)⟩

-- NOT PRINTED: function 4 (screelaw9_BlockReads)

/-! ### screeroom_Count_Chunks: function 14 -/
def screeroom_Count_Chunks.l0 : Nat → List (List Int) → Int → Int → Option (Int)
  | 0, _, _, _ => none
  | k + 1, x1, x4, x1000 => if x4 < (x1.length : Int) then ((screeroom_Count_Ok.f x1000).bind fun bt427 => (if bt427.1 = true then (if 0 ≤ x4 then ((screeroom_Count_Add.f bt427.2 (wrap64 (1 + ((rd_L1 x1 x4).length : Int)))).bind fun bt430 => (screeroom_Count_Chunks.l0 k x1 (wrap64 (x4 + 1)) bt430.2)) else (none)) else (some bt427.2))) else (some x1000)
def screeroom_Count_Chunks.f (k : Nat) (s0_0 : Int) (l1 : List (List Int)) : Option (Int) := screeroom_Count_Chunks.l0 k l1 0 s0_0
theorem screeroom_Count_Chunks.mono_l : ∀ k, (∀ y0 y1 y2, LeO (screeroom_Count_Chunks.l0 k y0 y1 y2) (screeroom_Count_Chunks.l0 (k + 1) y0 y1 y2))
  | 0 => fun _ _ _ r h => by simp [screeroom_Count_Chunks.l0] at h
  | k + 1 => by
    have ih0 := screeroom_Count_Chunks.mono_l k
    · intro y0 y1 y2
      unfold screeroom_Count_Chunks.l0
      repeat' first
      | (with_reducible exact ih0 _ _ _)
      | (with_reducible exact LeO.refl _)
      | (with_reducible exact LeO.none _)
      | (with_reducible refine LeO.ite ?_ ?_)
      | (with_reducible refine LeO.bind ?_ (fun _ => ?_))
      | exact ih0 _ _ _
      | exact LeO.none _
      | refine LeO.ite ?_ ?_
      | refine LeO.bind ?_ (fun _ => ?_)
theorem screeroom_Count_Chunks.mono : ∀ a0 a1 k, LeO (screeroom_Count_Chunks.f k a0 a1) (screeroom_Count_Chunks.f (k + 1) a0 a1) := by
  intro a0 a1 k
  have ih0 := screeroom_Count_Chunks.mono_l k
  unfold screeroom_Count_Chunks.f
  repeat' first
      | (with_reducible exact ih0 _ _ _)
      | (with_reducible exact LeO.refl _)
      | (with_reducible exact LeO.none _)
      | (with_reducible refine LeO.ite ?_ ?_)
      | (with_reducible refine LeO.bind ?_ (fun _ => ?_))
      | exact ih0 _ _ _
      | exact LeO.none _
      | refine LeO.ite ?_ ?_
      | refine LeO.bind ?_ (fun _ => ?_)
set_option maxHeartbeats 8000000 in
set_option maxRecDepth 100000 in
theorem screeroom_Count_Chunks.calls (k : Nat) (g : Nat) (s0_0 : Int) (A1 : Option Addr) (c1 : Nat) (l1 : List (List Int)) (r : Int) (w0 w : World) (hI : IsS91 w0 w g s0_0) (hB : Below w0.heap.size w0 w) (hr1 : ∀ W_, KeepBut w W_ g none → Kd.C (Kd.slice 5 (Kd.int .u8)) W_ A1 l1.length l1) (hc1 : l1.length ≤ c1) (h : screeroom_Count_Chunks.f k s0_0 l1 = some r) :
    Calls Tryd.prog 14 #[.pointer (some ⟨g, 0, none⟩), .slice A1 l1.length c1] w fun e w' => e = .returned (.tuple #[]) ∧ IsS91 w0 w' g r ∧ Below w0.heap.size w0 w' ∧ KeepBut w w' g none := by
  have HR1 := Aside0.mk hr1
  have HC1 := Aside0.mk hc1
  clear hr1 hc1
  have HI0 := Aside0.mk hI
  have HK := Aside0.mk (KeepBut.refl w g none)
  have HL := Aside0.mk hB.size
  clear hI
  have HW0 := Aside0.mk hB.size
  have HB := Aside0.mk hB
  clear hB
  have H : (screeroom_Count_Chunks.l0 k l1 0 s0_0) = some r := h
  clear h
  have H' := Aside0.mk H
  clear H
  go_enter Tryd.func14, Tryd.ntmps14
  go_wp2
  go_loopg [4] k (fun kq v4 w' => ∃ (x4_1 : Int) (x1000_1 : Int), v4 = .int .i64 x4_1 ∧ Aside0 (screeroom_Count_Chunks.l0 kq l1 x4_1 x1000_1 = some r) ∧ Aside0 (kq ≤ k) ∧ Aside0 (IsS91 w0 w' g x1000_1) ∧ Aside0 (KeepBut w w' g none) ∧ Aside0 (Below w0.heap.size w0 w'))
  case atStart => exact ⟨(0), (s0_0), (by first | rfl | (simp; done) | (simp [*]; done)), H', ⟨Nat.le_refl _⟩, ⟨by repeat (first | (with_reducible first | exact HI0.out | apply IsS91.alloc | apply IsS91.drewN | apply IsS91.drew | apply IsS91.set_0) | exact HI0.out)⟩, ⟨by repeat (first | (with_reducible first | exact HK.out | apply KeepBut.set_ | apply keep_drewN | apply keep_drew | apply keep_alloc) | exact HK.out)⟩, ⟨by repeat (first | (with_reducible first | exact HB.out | apply below_alloc | apply pw_below_drewN | apply below_drew1 | refine below_set ?_ (IsS91.ge HI0.out)) | exact HB.out)⟩⟩
  case round =>
    clear H'
    try clear c1
    try clear p2
    obtain ⟨x4_1, x1000_1, rfl, HA, HK1, HI0, HK, HB⟩ := hrel
    cases gk with
    | zero => exact absurd HA.out (by simp [screeroom_Count_Chunks.l0])
    | succ k1 =>
      have H := HA.out
      clear HA
      simp only [screeroom_Count_Chunks.l0] at H
      by_cases c3 : x4_1 < (l1.length : Int)
      · rw [if_pos c3] at H
        have c3b0 : decide (x4_1 < (l1.length : Int)) = true := decide_eq_true c3
        clear c3
        replace H := Option.bind_eq_some_iff.mp H
        obtain ⟨⟨t427, t428⟩, A40, H⟩ := H
        replace H : (if t427 = true then (if 0 ≤ x4_1 then ((screeroom_Count_Add.f t428 (wrap64 (1 + ((rd_L1 l1 x4_1).length : Int)))).bind fun bt430 => (screeroom_Count_Chunks.l0 k1 l1 (wrap64 (x4_1 + 1)) bt430.2)) else (none)) else (some t428)) = some r := H
        have A4 := Aside0.mk A40
        clear A40
        by_cases c5 : t427 = true
        · subst c5
          have H1 : (if 0 ≤ x4_1 then ((screeroom_Count_Add.f t428 (wrap64 (1 + ((rd_L1 l1 x4_1).length : Int)))).bind fun bt430 => (screeroom_Count_Chunks.l0 k1 l1 (wrap64 (x4_1 + 1)) bt430.2)) else (none)) = some r := by rw [if_pos rfl] at H; exact H
          clear H
          have H := H1
          clear H1
          by_cases c6 : 0 ≤ x4_1
          · rw [if_pos c6] at H
            have c6b0 : decide (0 ≤ x4_1) = true := decide_eq_true c6
            clear c6
            replace H := Option.bind_eq_some_iff.mp H
            obtain ⟨⟨t430, t431⟩, A70, H⟩ := H
            replace H : (screeroom_Count_Chunks.l0 k1 l1 (wrap64 (x4_1 + 1)) t431) = some r := H
            have A7 := Aside0.mk A70
            clear A70
            have H' := Aside0.mk H
            clear H
            go_wp2_with (first | (go_at_call 15; (with_reducible refine (screeroom_Count_Ok.calls g x1000_1 true t428 w0 _ ?side1 ?side2 A4.out).mono ?_); (case side1 => repeat (first | (with_reducible first | exact HI0.out | apply IsS91.alloc | apply IsS91.drewN | apply IsS91.drew | apply IsS91.set_0) | exact HI0.out)); (case side2 => repeat (first | (with_reducible first | exact HB.out | apply below_alloc | apply pw_below_drewN | apply below_drew1 | refine below_set ?_ (IsS91.ge HI0.out)) | exact HB.out)); rintro e w8 ⟨rfl, hi, hb, hk⟩; have n0_ := Aside0.mk (KeepBut.trans (by repeat (first | (with_reducible first | exact HK.out | apply KeepBut.set_ | apply keep_drewN | apply keep_drew | apply keep_alloc) | exact HK.out)) hk (.inl rfl)); have n1_ := Aside0.mk (hb); have n2_ := Aside0.mk (hi); clear HK; clear HB; clear HI0; have HK := n0_; have HB := n1_; have HI0 := n2_; clear n0_ n1_ n2_; (try clear hb); (try clear hb2); (try clear hk); (try clear hi); have p429 : 0 ≤ (x4_1 : Int) := of_decide_eq_true (by first | (with_reducible assumption) | assumption); have q429 : x4_1 < (l1.length : Int) := of_decide_eq_true (by first | (with_reducible assumption) | assumption); obtain ⟨ad429, A429_0, c429_0, e429, hx429_0, hl429_0, hi429_0⟩ := at_L1 (Kd.C_foot_now HR1.out HK.out) x4_1 p429 q429; cases e429; have HR429_0 := Aside0.mk hi429_0; have HC429_0 := Aside0.mk hl429_0; clear hi429_0 hl429_0; replace p429 := eq_true p429; replace q429 := eq_true q429) | ((with_reducible refine gate_callee (f := 38) rfl ?_); refine goesL_ (some 22) rfl rfl Tryd.func38 (by kernel_rfl) rfl #[.pointer (some ⟨g, 0, none⟩), .int .i64 (wrap64 (1 + ((rd_L1 l1 x4_1).length : Int)))] rfl (by (try simp only [List.map_toArray, List.map_cons, List.map_nil]); first | done | rfl | (simp only [List.length_drop, List.length_take]; rfl)) ?_; (with_reducible refine (screeroom_Count_Add.calls g t428 (wrap64 (1 + ((rd_L1 l1 x4_1).length : Int))) t430 t431 w0 _ ?side1 ?side2 A7.out).mono ?_); (case side1 => repeat (first | (with_reducible first | exact HI0.out | apply IsS91.alloc | apply IsS91.drewN | apply IsS91.drew | apply IsS91.set_0) | exact HI0.out)); (case side2 => repeat (first | (with_reducible first | exact HB.out | apply below_alloc | apply pw_below_drewN | apply below_drew1 | refine below_set ?_ (IsS91.ge HI0.out)) | exact HB.out)); rintro e w9 ⟨rfl, hi, hb, hk⟩; refine ⟨_, rfl, ?_⟩; have n0_ := Aside0.mk (KeepBut.trans (by repeat (first | (with_reducible first | exact HK.out | apply KeepBut.set_ | apply keep_drewN | apply keep_drew | apply keep_alloc) | exact HK.out)) hk (.inl rfl)); have n1_ := Aside0.mk (hb); have n2_ := Aside0.mk (hi); clear HK; clear HB; clear HI0; have HK := n0_; have HB := n1_; have HI0 := n2_; clear n0_ n1_ n2_; (try clear hb); (try clear hb2); (try clear hk); (try clear hi)))
            go_roundg k1
            case measure => have := HK1.out; omega
            case rel => exact ⟨(wrap64 (x4_1 + 1)), (t431), (by first | rfl | (simp; done) | (simp [*]; done)), H', ⟨by have := HK1.out; omega⟩, ⟨by repeat (first | (with_reducible first | exact HI0.out | apply IsS91.alloc | apply IsS91.drewN | apply IsS91.drew | apply IsS91.set_0) | exact HI0.out)⟩, ⟨by repeat (first | (with_reducible first | exact HK.out | apply KeepBut.set_ | apply keep_drewN | apply keep_drew | apply keep_alloc) | exact HK.out)⟩, ⟨by repeat (first | (with_reducible first | exact HB.out | apply below_alloc | apply pw_below_drewN | apply below_drew1 | refine below_set ?_ (IsS91.ge HI0.out)) | exact HB.out)⟩⟩
          · rw [if_neg c6] at H
            exact absurd H (by simp)
        · replace c5 := Bool.eq_false_iff.mpr c5
          subst c5
          have H1 : (some t428) = some r := by rw [if_neg (show ¬ (false = true) by decide)] at H; exact H
          clear H
          have H := H1
          clear H1
          obtain rfl := Option.some.inj H
          go_wp2_with (first | (go_at_call 15; (with_reducible refine (screeroom_Count_Ok.calls g x1000_1 false t428 w0 _ ?side1 ?side2 A4.out).mono ?_); (case side1 => repeat (first | (with_reducible first | exact HI0.out | apply IsS91.alloc | apply IsS91.drewN | apply IsS91.drew | apply IsS91.set_0) | exact HI0.out)); (case side2 => repeat (first | (with_reducible first | exact HB.out | apply below_alloc | apply pw_below_drewN | apply below_drew1 | refine below_set ?_ (IsS91.ge HI0.out)) | exact HB.out)); rintro e w10 ⟨rfl, hi, hb, hk⟩; have n0_ := Aside0.mk (KeepBut.trans (by repeat (first | (with_reducible first | exact HK.out | apply KeepBut.set_ | apply keep_drewN | apply keep_drew | apply keep_alloc) | exact HK.out)) hk (.inl rfl)); have n1_ := Aside0.mk (hb); have n2_ := Aside0.mk (hi); clear HK; clear HB; clear HI0; have HK := n0_; have HB := n1_; have HI0 := n2_; clear n0_ n1_ n2_; (try clear hb); (try clear hb2); (try clear hk); (try clear hi)))
          first | go_end0 | ((try simp only [Exit.inBlock, Exit.then]); refine bodyPost_ret (results_none rfl _ _ _) rfl ?_)
          exact ⟨by first | rfl | (simp [errW_none, errW_some] <;> rfl) | (simp [*, errW_none, errW_some] <;> rfl), by repeat (first | (with_reducible first | exact HI0.out | apply IsS91.alloc | apply IsS91.drewN | apply IsS91.drew | apply IsS91.set_0) | exact HI0.out), by repeat (first | (with_reducible first | exact HB.out | apply below_alloc | apply pw_below_drewN | apply below_drew1 | refine below_set ?_ (IsS91.ge HI0.out)) | exact HB.out), by repeat (first | (with_reducible first | exact HK.out | apply KeepBut.set_ | apply keep_drewN | apply keep_drew | apply keep_alloc) | exact HK.out)⟩
      · rw [if_neg c3] at H
        have c3b0 : decide (x4_1 < (l1.length : Int)) = false := decide_eq_false c3
        clear c3
        obtain rfl := Option.some.inj H
        go_wp2
        first | go_end0 | ((try simp only [Exit.inBlock, Exit.then]); refine bodyPost_ret (results_none rfl _ _ _) rfl ?_)
        exact ⟨by first | rfl | (simp [errW_none, errW_some] <;> rfl) | (simp [*, errW_none, errW_some] <;> rfl), by repeat (first | (with_reducible first | exact HI0.out | apply IsS91.alloc | apply IsS91.drewN | apply IsS91.drew | apply IsS91.set_0) | exact HI0.out), by repeat (first | (with_reducible first | exact HB.out | apply below_alloc | apply pw_below_drewN | apply below_drew1 | refine below_set ?_ (IsS91.ge HI0.out)) | exact HB.out), by repeat (first | (with_reducible first | exact HK.out | apply KeepBut.set_ | apply keep_drewN | apply keep_drew | apply keep_alloc) | exact HK.out)⟩

-- NOT PRINTED: function 5 (screelaw9_BlockTurns)

-- NOT PRINTED: function 24 (screelaw9_known)

-- NOT PRINTED: function 25 (screelaw9_made)

-- NOT PRINTED: function 6 (screelaw9_BlockBack)

-- NOT PRINTED: function 7 (screelaw9_BlockAgain)

/-! ### screelaw9_place: function 26 -/
def screelaw9_place.f (a0 : Int) (a1 : Int) : Option (Int) := if a1 = 0 then (none) else (if (Int.tmod a0 a1) < 0 then (some (wrap64 ((Int.tmod a0 a1) + a1))) else (some (Int.tmod a0 a1)))
set_option maxHeartbeats 8000000 in
set_option maxRecDepth 100000 in
theorem screelaw9_place.calls (a0 : Int) (a1 : Int) (r : Int) (w : World) (h : screelaw9_place.f a0 a1 = some r) :
    Calls Tryd.prog 26 #[.int .i64 a0, .int .i64 a1] w fun e w' => e = .returned (.int .i64 r) ∧ Drawn0 w w' := by
  have H : (if a1 = 0 then (none) else (if (Int.tmod a0 a1) < 0 then (some (wrap64 ((Int.tmod a0 a1) + a1))) else (some (Int.tmod a0 a1)))) = some r := h
  clear h
  by_cases c3 : a1 = 0
  · rw [if_pos c3] at H
    exact absurd H (by simp)
  · rw [if_neg c3] at H
    have c3b0 : (a1 == 0) = false := beq_eq_false_iff_ne.mpr c3
    have c3b1 : (a1 != 0) = true := bne_iff_ne.mpr c3
    by_cases c4 : (Int.tmod a0 a1) < 0
    · rw [if_pos c4] at H
      have c4b0 : decide ((Int.tmod a0 a1) < 0) = true := decide_eq_true c4
      clear c4
      obtain rfl := Option.some.inj H
      go_enter Tryd.func26, Tryd.ntmps26
      go_wp2
      go_ret
      exact ⟨by first | rfl | (simp; done) | (simp [*]; done), by repeat (first | exact Drawn0.refl _ | apply Drawn0.step)⟩
    · rw [if_neg c4] at H
      have c4b0 : decide ((Int.tmod a0 a1) < 0) = false := decide_eq_false c4
      clear c4
      obtain rfl := Option.some.inj H
      go_enter Tryd.func26, Tryd.ntmps26
      go_wp2
      go_ret
      exact ⟨by first | rfl | (simp; done) | (simp [*]; done), by repeat (first | exact Drawn0.refl _ | apply Drawn0.step)⟩

-- NOT PRINTED: function 8 (screelaw9_BlockTurned)

end Go.Proofs.YtaonjmkfbfhanaaDoor.QBo
/- The count of entries' parts (this claim's own lemmas). -/
namespace Go.Proofs.YtaonjmkfbfhanaaDoor.SmE
open Go.RowKit Go.Proofs.YtaonjmkfbfhanaaDoorW.PrintWords Go.Proofs.YtaonjmkfbfhanaaDoor.Own Go.Proofs.YtaonjmkfbfhanaaDoor.Wk Go.Proofs.YtaonjmkfbfhanaaDoor.QBo
open Go.Proofs.YtaonjmkfbfhanaaDoor.Bk (En kE)
set_option linter.unusedVariables false
/-- A state of the count: so many parts more, or none. -/
def addC (s n : Int) : Int := if s ≥ 0 then s - n else s
def cntE : Int → List En → Int
  | s, [] => s
  | s, x :: l => if s ≥ 0 then cntE (addC (addC s (1 + (x.f0.size : Int))) (x.f3.size : Int)) l else s
/-- How many parts entries have. -/
def partsE (l : List En) : Nat := (l.map fun x => 1 + x.f0.size + x.f3.size).sum
/-- Their texts are no greater than what can be read. -/
def FitE (l : List En) : Prop := ∀ x ∈ l, x.f0.size ≤ 140737488351232 ∧ x.f3.size ≤ 140737488351232
def In (s : Int) : Prop := -1000000000000000 ≤ s ∧ s ≤ 32768
theorem addC_in {s n : Int} (h : In s) (h0 : 0 ≤ n) (h1 : n ≤ 140737488355328) : In (addC s n) := by
  unfold In at *; unfold addC; split <;> omega
theorem wrap_in {a : Int} (h0 : -9223372036854775808 ≤ a) (h1 : a < 9223372036854775808) : wrap64 a = a := by unfold wrap64; omega
theorem add_eq {s n : Int} (h : In s) (h0 : 0 ≤ n) (h1 : n ≤ 140737488355328) : ∃ b, screeroom_Count_Add.f s n = some (b, addC s n) := by
  unfold screeroom_Count_Add.f addC
  unfold In at h
  split
  · rw [wrap_in (by omega) (by omega)]; exact ⟨_, rfl⟩
  · exact ⟨_, rfl⟩
theorem text_eq {s : Int} {x : ByteArray} (h : In s) (hx : x.size ≤ 140737488351232) : screeroom_Count_Text.f s x = some (addC s (1 + (x.size : Int))) := by
  unfold screeroom_Count_Text.f
  rw [wrap_in (by omega) (by omega)]
  obtain ⟨b, hb⟩ := add_eq h (n := 1 + (x.size : Int)) (by omega) (by omega)
  rw [hb]
  rfl
theorem entries_ev (l : List En) (hl : l.length ≤ 140737488351232) (hf : FitE l) (d : Nat) : ∀ (i : Nat) (s : Int), i + d = l.length → In s → Ev (fun k => screeroom_Count_Entries.l0 k l (i : Int) s) (cntE s (l.drop i)) := by
  induction d with
  | zero =>
    intro i s hi hs
    refine Ev.step (f := fun k => screeroom_Count_Entries.j1 k l (i : Int) false s) (fun k => ?_) (Ev.step (f := fun _ => some s) (fun k => ?_) ?_)
    · rw [screeroom_Count_Entries.l0, if_neg (by omega)]
    · rw [screeroom_Count_Entries.j1, if_neg (by decide)]
    · rw [List.drop_of_length_le (by omega)]; exact Ev.now _
  | succ d ih =>
    intro i s hi hs
    have hlt : i < l.length := by omega
    have hx : (rd_T30 l (i : Int)) = l[i] := by simp [rd_T30, List.getD_eq_getElem?_getD, hlt]
    rw [List.drop_eq_getElem_cons hlt]
    unfold cntE
    by_cases h0 : s ≥ 0
    · rw [if_pos h0]
      have hm := hf l[i] (List.getElem_mem hlt)
      have hs1 := addC_in hs (n := 1 + (l[i].f0.size : Int)) (by omega) (by omega)
      have hs2 := addC_in hs1 (n := (l[i].f3.size : Int)) (by omega) (by omega)
      obtain ⟨b, hb⟩ := add_eq hs1 (n := (l[i].f3.size : Int)) (by omega) (by omega)
      refine Ev.step (f := fun k => screeroom_Count_Entries.j1 k l (i : Int) true s) (fun k => ?_) (Ev.step (fun k => ?_) (ih (i + 1) _ (by omega) hs2))
      · rw [screeroom_Count_Entries.l0, if_pos (by omega)]
        unfold screeroom_Count_Ok.f
        rw [decide_eq_true h0]
        rfl
      · rw [screeroom_Count_Entries.j1, if_pos rfl, if_pos (by omega), if_pos (by omega), hx, text_eq hs hm.1, Option.bind_some, hb, Option.bind_some, wrap_in (by omega) (by omega)]
        rfl
    · rw [if_neg h0]
      refine Ev.step (f := fun k => screeroom_Count_Entries.j1 k l (i : Int) false s) (fun k => ?_) (Ev.step (f := fun _ => some s) (fun k => ?_) (Ev.now _))
      · rw [screeroom_Count_Entries.l0, if_pos (by omega)]
        unfold screeroom_Count_Ok.f
        rw [decide_eq_false h0]
        rfl
      · rw [screeroom_Count_Entries.j1, if_neg (by decide)]
theorem entries_eq {l : List En} {s : Int} (hl : l.length ≤ 140737488351232) (hf : FitE l) (hs : In s) : ∃ k, screeroom_Count_Entries.f k s l = some (cntE s l) := by
  have h := (entries_ev l hl hf l.length 0 s (by omega) hs).rounds
  exact h
theorem cntE_parts {l : List En} : ∀ {s : Int}, 0 ≤ cntE s l → 0 ≤ s ∧ (partsE l : Int) + cntE s l = s := by
  induction l with
  | nil => intro s h; exact ⟨h, by simp [partsE, cntE]⟩
  | cons x l ih =>
    intro s h
    unfold cntE at h ⊢
    by_cases h0 : s ≥ 0
    · rw [if_pos h0] at h ⊢
      obtain ⟨h1, h2⟩ := ih h
      have hp : partsE (x :: l) = 1 + x.f0.size + x.f3.size + partsE l := by simp [partsE]
      have h3 : 0 ≤ addC s (1 + (x.f0.size : Int)) := by
        rcases Int.lt_or_le (addC s (1 + (x.f0.size : Int))) 0 with hlt | hge
        · have : addC (addC s (1 + (x.f0.size : Int))) (x.f3.size : Int) = addC s (1 + (x.f0.size : Int)) := by rw [addC, if_neg (by omega)]
          omega
        · exact hge
      have e1 : addC s (1 + (x.f0.size : Int)) = s - (1 + (x.f0.size : Int)) := by rw [addC, if_pos h0]
      have e2 : addC (addC s (1 + (x.f0.size : Int))) (x.f3.size : Int) = addC s (1 + (x.f0.size : Int)) - (x.f3.size : Int) := by rw [addC, if_pos h3]
      exact ⟨h0, by rw [hp]; omega⟩
    · rw [if_neg h0] at h
      omega
/-- screelaw9.small. -/
def smallB (l : List En) : Bool := decide (l.length ≤ 200) && decide (0 ≤ cntE 32768 l)
theorem smallB_true {l : List En} (h : smallB l = true) : l.length ≤ 200 ∧ partsE l ≤ 32768 := by
  unfold smallB at h
  rw [Bool.and_eq_true, decide_eq_true_eq, decide_eq_true_eq] at h
  obtain ⟨h1, h2⟩ := h
  have := (cntE_parts h2).2
  exact ⟨h1, by omega⟩
theorem small_calls {w : World} {A : Option Addr} {n c : Nat} {l : List En} (h : Rd kE w A n c l) (hl : l.length ≤ 140737488351232) (hf : FitE l) :
    Calls Tryd.prog 10 #[.slice A n c] w fun e w' => e = .returned (.bool (smallB l)) ∧ Below w.heap.size w w' := by
  obtain ⟨e1, h2, h3⟩ := h
  subst e1
  obtain ⟨k, hk⟩ := entries_eq hl hf (s := 32768) ⟨by decide, by decide⟩
  refine (screelaw9_small.calls k A c l (smallB l) w h3 h2 ?_).mono ?_
  · unfold screelaw9_small.f screeroom_Many.f
    rw [Option.bind_some, hk, Option.bind_some]
    unfold smallB screeroom_Count_Ok.f
    by_cases h200 : l.length ≤ 200
    · rw [if_pos (by omega), decide_eq_true h200]
      rfl
    · rw [if_neg (by omega), decide_eq_false h200]
      rfl
  · rintro e w' ⟨rfl, hb⟩
    exact ⟨rfl, by first | exact hb | exact hb.below⟩
end Go.Proofs.YtaonjmkfbfhanaaDoor.SmE
/- What the bound on bulk gives (this claim's own copy of the small lemmas). -/
namespace Go.Proofs.YtaonjmkfbfhanaaDoor
open Go.ChangeShapes Go.WideShapes Go.ChangeAt Go.RowKit
theorem part_one {H : Type} (d : DataW H) : 1 ≤ Rows.uptoBulk d := by
  cases d with
  | lit l => cases l <;> simp [Rows.uptoBulk]
  | nil => simp [Rows.uptoBulk]
  | ptr d => simp [Rows.uptoBulk]
  | slice elems spare => simp [Rows.uptoBulk]
  | agg parts => simp [Rows.uptoBulk]
  | iface t d => simp [Rows.uptoBulk]
  | map entries => simp [Rows.uptoBulk]
  | held h => simp [Rows.uptoBulk]
theorem part_le {H : Type} {d : DataW H} {l : List (DataW H)} (h : d ∈ l) : Rows.uptoBulk d ≤ Rows.uptoBulkAll l := by
  induction l with
  | nil => cases h
  | cons x r ih =>
    simp only [Rows.uptoBulkAll]
    cases List.mem_cons.1 h with
    | inl e => subst e; omega
    | inr e => have := ih e; omega
theorem length_bulk {H : Type} (l : List (DataW H)) : l.length ≤ Rows.uptoBulkAll l := by
  induction l with
  | nil => simp [Rows.uptoBulkAll]
  | cons x r ih => have := part_one x; simp only [Rows.uptoBulkAll, List.length_cons]; omega
theorem slice_bulk {H : Type} (elems spare : List (DataW H)) : elems.length ≤ Rows.uptoBulk (.slice elems spare) := by
  have h1 := length_bulk elems
  simp only [Rows.uptoBulk]
  omega
theorem bound {H : Type} {l : List (DataW H)} (hk : Rows.uptoSmall H l = true) : Rows.uptoBulkAll l ≤ 1048576 := of_decide_eq_true hk
theorem string_bulk {H : Type} (bytes : List UInt8) : bytes.length ≤ Rows.uptoBulk (DataW.lit (H := H) (.string bytes)) := by
  simp [Rows.uptoBulk]
theorem bulk_row {H : Type} {d : DataW H} {p r : List MemPlace} {len cap : Nat} {zs : List Int} {k : IntKind} (hx : (d, p) = (DataW.slice (lits k (zs.take len)) (lits k (zs.drop len)), r)) (hz : zs.length = cap) (hl : len ≤ cap) : len ≤ Rows.uptoBulk d := by
  obtain ⟨rfl, _⟩ := Prod.mk.inj hx
  have := slice_bulk (H := H) (lits k (zs.take len)) (lits k (zs.drop len))
  have hl2 : (lits (H := H) k (zs.take len)).length = len := by simp [lits]; omega
  rw [hl2] at this
  exact this
end Go.Proofs.YtaonjmkfbfhanaaDoor
/- Arguments that are lists, of lists or of structs, opened (this claim's own lemmas). -/
namespace Go.Proofs.YtaonjmkfbfhanaaDoor
namespace Opn
open Go.ChangeShapes Go.WideShapes Go.ChangeAt Go.RowKit Go.Deep
open YtaonjmkfbfhanaaDoorW.PrintWords
set_option linter.unusedVariables false
/-- The values of a type that came in, read as kind d: what holds of them; how much they bulk. -/
def Opens {H : Type} (enc : TypeId × Value → H) (P : Program) (W : World) (e : TypeId) {α : Type} (d : Kd α) (G : α → Prop) (wt : α → Nat) : Prop :=
  ∀ (base : Nat) (held : Bool) (fuel : Nat) (cs : List Value) (x : DataW H × List MemPlace), DataW.trod enc P W base (fun _ => true) held fuel e cs = some x → (∀ n ∈ x.1.weights P e, n ≤ 140737488351232) → ∃ v, d.K W v cs ∧ G v ∧ wt v ≤ Rows.uptoBulk x.1
section
variable {H : Type} {enc : TypeId × Value → H} {P : Program} {W : World} {t e : TypeId}
theorem opens_int {k : IntKind} (he : P.underlying e = some (.int k)) : Opens enc P W e (Kd.int k) (fun n => (Lit.int k n).wf = true) (fun _ => 1) := by
  intro base held fuel cs x h hw
  obtain ⟨n, rfl, rfl, hwf⟩ := DataW.trod_int he h
  exact ⟨n, rfl, hwf, by simp [Rows.uptoBulk]⟩
theorem opens_bool (he : P.underlying e = some .bool) : Opens enc P W e Kd.bool (fun _ => True) (fun _ => 1) := by
  intro base held fuel cs x h hw
  obtain ⟨n, rfl, rfl⟩ := DataW.trod_bool he h
  exact ⟨n, rfl, trivial, by simp [Rows.uptoBulk]⟩
theorem opens_str (he : P.underlying e = some .string) : Opens enc P W e Kd.string (fun s => s.size ≤ 140737488351232) (fun s => s.size + 1) := by
  intro base held fuel cs x h hw
  obtain ⟨s, rfl, rfl, hm⟩ := DataW.trod_string he h
  have hl : s.data.toList.length = s.size := Array.length_toList
  refine ⟨s, rfl, ?_, by simp only [Rows.uptoBulk, hl]; exact Nat.le_refl _⟩
  have := hw s.data.toList.length (by simp [DataW.weights])
  rw [hl] at this
  exact this
theorem list_of {α : Type} (n : Nat) (Q : Nat → α → Prop) (h : ∀ i, i < n → ∃ v, Q i v) : ∃ l : List α, l.length = n ∧ ∀ i v, l[i]? = some v → Q i v := by
  induction n with
  | zero => exact ⟨[], rfl, fun i v hv => by simp at hv⟩
  | succ n ih =>
    obtain ⟨l, hl, hq⟩ := ih (fun i hi => h i (by omega))
    obtain ⟨v, hv⟩ := h n (by omega)
    refine ⟨l ++ [v], by simp [hl], fun i u hu => ?_⟩
    by_cases hi : i < l.length
    · rw [List.getElem?_append_left hi] at hu
      exact hq i u hu
    · rw [List.getElem?_append_right (by omega)] at hu
      have h0 : i - l.length = 0 := by
        have := (List.getElem?_eq_some_iff.1 hu).1
        simp at this
        omega
      rw [h0] at hu
      simp at hu
      have hin : i = n := by omega
      subst hu
      subst hin
      exact hv
theorem bulk_all (l : List (DataW H)) : Rows.uptoBulkAll l = (l.map Rows.uptoBulk).sum := by
  induction l with
  | nil => simp [Rows.uptoBulkAll]
  | cons d l ih => simp [Rows.uptoBulkAll, ih]
theorem weights_all {d : DataW H} {l : List (DataW H)} (hd : d ∈ l) : ∀ n ∈ d.weights P e, n ∈ DataW.weightsAll P e l := by
  induction l with
  | nil => cases hd
  | cons y l ih =>
    intro n hn
    simp only [DataW.weightsAll, List.mem_append]
    rcases List.mem_cons.1 hd with rfl | hd
    · exact .inl hn
    · exact .inr (ih hd n hn)
theorem sum_bulk {α : Type} (wt : α → Nat) (l : List α) : ∀ (D : Nat → DataW H) (o : Nat), (∀ i v, l[i]? = some v → wt v ≤ Rows.uptoBulk (D (o + i))) → (l.map wt).sum ≤ (((List.range l.length).map fun i => D (o + i)).map Rows.uptoBulk).sum := by
  induction l with
  | nil => intro D o h; simp
  | cons x l ih =>
    intro D o h
    have h0 := h 0 x rfl
    have h1 := ih D (o + 1) (fun i v hv => by rw [Nat.add_assoc, Nat.add_comm 1]; exact h (i + 1) v (by simpa using hv))
    simp only [List.map_cons, List.sum_cons, List.length_cons, List.range_succ_eq_map, List.map_map]
    simp only [List.map_map] at h1
    have e : (Rows.uptoBulk ∘ (fun i => D (o + i)) ∘ Nat.succ) = (Rows.uptoBulk ∘ fun i => D (o + 1 + i)) := by
      funext i
      simp only [Function.comp]
      rw [show o + i.succ = o + 1 + i by omega]
    rw [e]
    simp only [Nat.add_zero] at h0 ⊢
    omega
theorem opens_slice {α : Type} {d : Kd α} {G : α → Prop} {wt : α → Nat} (ht : P.underlying t = some (.slice e)) (hc : P.cellsOf e = d.sz) (h : Opens enc P W e d G wt) :
    Opens enc P W t (Kd.slice e d) (fun l => l.length * P.bytesOf e ≤ 140737488351232 ∧ ∀ x ∈ l, G x) (fun l => (l.map wt).sum + 1) := by
  intro base held fuel cs x hx hw
  rcases open_slice ht hx with ⟨rfl, rfl⟩ | ⟨a, len, cap, m, n, D, Pl, rfl, hb, hl, hm, hmm, rfl, hi⟩
  · exact ⟨[], ⟨none, 0, rfl, Nat.le_refl _, Kd.C_nil _ _⟩, ⟨by simp, fun x hx => by cases hx⟩, by simp [Rows.uptoBulk]⟩
  · simp only [if_true] at hmm
    subst hmm
    have hwe : ∀ i, i < m → ∀ q ∈ (D i).weights P e, q ≤ 140737488351232 := by
      intro i him q hq
      refine hw q ?_
      simp only [DataW.weights, ht, List.mem_cons, List.mem_append]
      right
      by_cases hil : i < len
      · exact .inl (weights_all (List.mem_map.2 ⟨i, List.mem_range.2 hil, rfl⟩) q hq)
      · exact .inr (weights_all (List.mem_map.2 ⟨i - len, List.mem_range.2 (by omega), by rw [show len + (i - len) = i by omega]⟩) q hq)
    obtain ⟨l, hll, hq⟩ := list_of len (fun i v => ∃ cs', W.cells? base (a.add (i * P.cellsOf e)) (P.cellsOf e) = some cs' ∧ d.K W v cs' ∧ G v ∧ wt v ≤ Rows.uptoBulk (D i)) (fun i hil => by
      obtain ⟨cs', h1, h2⟩ := hi i (by omega)
      obtain ⟨v, k1, k2, k3⟩ := h base held n cs' (D i, Pl i) h2 (hwe i (by omega))
      exact ⟨v, cs', h1, k1, k2, k3⟩)
    refine ⟨l, ⟨some a, m, by rw [hll], by omega, rfl, by unfold maxLen at hm; omega, fun h0 => ⟨a, rfl, fun j p hp => ?_⟩⟩, ⟨?_, fun v hv => ?_⟩, ?_⟩
    · obtain ⟨cs', h1, k1, k2, k3⟩ := hq j p hp
      obtain ⟨_, hcl, hat⟩ := World.cells?_some h1
      rw [hc] at hcl hat
      refine ⟨cs', hcl, k1, fun i u hu => ?_⟩
      have hil : i < d.sz := by rw [← hcl]; exact (List.getElem?_eq_some_iff.1 hu).1
      have := hat i hil
      rw [hu, Go.Deep.add_add] at this
      exact this
    · have := hw ((len + (m - len)) * P.bytesOf e) (by simp [DataW.weights, ht])
      rw [hll]
      refine Nat.le_trans (Nat.mul_le_mul_right _ ?_) this
      omega
    · obtain ⟨i, hiv⟩ := List.getElem?_of_mem hv
      obtain ⟨cs', h1, k1, k2, k3⟩ := hq i v hiv
      exact k2
    · have hs := sum_bulk wt l D 0 (fun i v hv => by
        obtain ⟨cs', h1, k1, k2, k3⟩ := hq i v hv
        rw [Nat.zero_add]
        exact k3)
      simp only [Nat.zero_add] at hs
      rw [hll] at hs
      have e0 : (fun i => D i) = D := rfl
      rw [e0] at hs
      simp only [Rows.uptoBulk, bulk_all]
      omega
theorem field_at {fs : Array Field} {cs : List Value} (hone : oneCellFields P fs = true) (hcl : cs.length = fs.size) {xs : List (DataW H × List MemPlace)} {n base : Nat} {held : Bool}
    (hf : ∀ (i : Nat) (f : Field), fs[i]? = some f → DataW.trod enc P W base (fun _ => true) held n f.type ((cs.drop f.offset).take (P.cellsOf f.type)) = xs[i]?) (j : Nat) (f : Field) (hj : fs[j]? = some f) : ∃ v, cs[j]? = some v ∧ DataW.trod enc P W base (fun _ => true) held n f.type [v] = xs[j]? := by
  obtain ⟨ho, hk⟩ := hone_of hone j f hj
  have hjl : j < cs.length := by rw [hcl]; exact (Array.getElem?_eq_some_iff.1 hj).1
  have h1 := hf j f hj
  rw [ho, hk, List.drop_eq_getElem_cons hjl] at h1
  exact ⟨cs[j], List.getElem?_eq_getElem hjl, h1⟩
theorem each_mem {ts : List TypeId} {ds : List (DataW H)} {j : Nat} {u : TypeId} {d : DataW H} (ht : ts[j]? = some u) (hd : ds[j]? = some d) (hw : ∀ n ∈ DataW.weightsEach P ts ds, n ≤ 140737488351232) : ∀ n ∈ d.weights P u, n ≤ 140737488351232 := fun n hn => hw n (DataW.weights_mem_each ht hd n hn)
/-- A struct of a text, a bool, a text. -/
theorem opens_sbs {α : Type} {d : Kd α} {f0 f1 f2 : Field} {mk : ByteArray → Bool → ByteArray → α} {G : α → Prop} {wt : α → Nat} (ht : P.underlying t = some (.struct #[f0, f1, f2])) (hone : oneCellFields P #[f0, f1, f2] = true) (hC : P.cellsOf t = 3)
    (h0 : P.underlying f0.type = some .string) (h1 : P.underlying f1.type = some .bool) (h2 : P.underlying f2.type = some .string) (hK : ∀ a b c, d.K W (mk a b c) [.string a, .bool b, .string c])
    (hG : ∀ a b c, a.size ≤ 140737488351232 → c.size ≤ 140737488351232 → G (mk a b c)) (hwt : ∀ a b c, wt (mk a b c) ≤ a.size + c.size + 4) : Opens enc P W t d G wt := by
  intro base held fuel cs x hx hw
  obtain ⟨xs, n, _, rfl, hcl, hxl, hf⟩ := DataW.trod_struct ht hx
  rw [hC] at hcl
  obtain ⟨v0, e0, g0⟩ := field_at hone hcl hf 0 f0 rfl
  obtain ⟨v1, e1, g1⟩ := field_at hone hcl hf 1 f1 rfl
  obtain ⟨v2, e2, g2⟩ := field_at hone hcl hf 2 f2 rfl
  have hxl' : xs.length = 3 := hxl
  match xs, hxl' with
  | [y0, y1, y2], _ =>
    match cs, hcl with
    | [c0, c1, c2], _ =>
      simp only [List.getElem?_cons_zero, List.getElem?_cons_succ, Option.some.injEq] at e0 e1 e2 g0 g1 g2
      subst e0 e1 e2
      simp only [List.map_cons, List.map_nil, DataW.weights, ht] at hw
      have w0 := each_mem (P := P) (j := 0) (ts := [f0.type, f1.type, f2.type]) (ds := [y0.1, y1.1, y2.1]) rfl rfl hw
      have w2 := each_mem (P := P) (j := 2) (ts := [f0.type, f1.type, f2.type]) (ds := [y0.1, y1.1, y2.1]) rfl rfl hw
      obtain ⟨s0, hk0, q0, b0⟩ := opens_str h0 base held n [c0] y0 g0 w0
      obtain ⟨s1, hk1, q1, b1⟩ := opens_bool h1 base held n [c1] y1 g1 (fun n hn => by
        obtain ⟨b, _, hy⟩ := DataW.trod_bool h1 g1
        rw [hy] at hn
        simp [DataW.weights] at hn)
      obtain ⟨s2, hk2, q2, b2⟩ := opens_str h2 base held n [c2] y2 g2 w2
      have k0 : c0 = .string s0 := List.cons.inj hk0 |>.1
      have k1 : c1 = .bool s1 := List.cons.inj hk1 |>.1
      have k2 : c2 = .string s2 := List.cons.inj hk2 |>.1
      subst k0 k1 k2
      refine ⟨mk s0 s1 s2, hK _ _ _, hG _ _ _ q0 q2, ?_⟩
      have := hwt s0 s1 s2
      dsimp only at b0 b1 b2
      simp only [List.map_cons, List.map_nil, Rows.uptoBulk, Rows.uptoBulkAll]
      omega
/-- A slice that is an argument. -/
theorem slice_arg {α : Type} {d : Kd α} {G : List α → Prop} {wt : List α → Nat} {base : Nat} {held : Bool} {a : Option Addr} {len cap : Nat} {da : DataW H} {ps : List MemPlace} {ts : List TypeId} {ds : List (DataW H)} {j : Nat} (ho : Opens enc P W t (Kd.slice e d) G wt)
    (hsz : (DataW.weightsEach P ts ds).all (· ≤ reachBytes) = true) (hts : ts[j]? = some t) (hds : ds[j]? = some da) (h : DataW.Trod enc P W base (fun _ => true) held t (.slice a len cap) da ps) :
    ∃ l : List α, len = l.length ∧ d.C W a l.length l ∧ l.length ≤ cap ∧ G l ∧ wt l ≤ Rows.uptoBulk da := by
  obtain ⟨fuel, hf⟩ := h
  obtain ⟨l, ⟨A, c, he, hlc, hC⟩, hg, hb⟩ := ho base held fuel _ _ hf (fun n hn => by
    exact of_decide_eq_true (List.all_eq_true.1 hsz n (DataW.weights_mem_each hts hds n hn)))
  simp only [Value.cells, List.cons.injEq, and_true, Value.slice.injEq] at he
  obtain ⟨rfl, rfl, rfl⟩ := he
  exact ⟨l, rfl, hC, hlc, hg, hb⟩
end
end Opn
end Go.Proofs.YtaonjmkfbfhanaaDoor
/- A list of entries that came in (this claim's own lemmas). -/
namespace Go.Proofs.YtaonjmkfbfhanaaDoor
namespace Opn
open Go.ChangeShapes Go.WideShapes Go.ChangeAt Go.RowKit Go.Deep
open YtaonjmkfbfhanaaDoorW.PrintWords
set_option linter.unusedVariables false
section
variable {H : Type} {enc : TypeId × Value → H} {P : Program} {W : World} {t : TypeId}
/-- A struct of a text, a number, a bool, a text. -/
theorem opens_subs {α : Type} {d : Kd α} {f0 f1 f2 f3 : Field} {mk : ByteArray → Int → Bool → ByteArray → α} {G : α → Prop} {wt : α → Nat} (ht : P.underlying t = some (.struct #[f0, f1, f2, f3])) (hone : oneCellFields P #[f0, f1, f2, f3] = true) (hC : P.cellsOf t = 4)
    (h0 : P.underlying f0.type = some .string) (h1 : P.underlying f1.type = some (.int .u64)) (h2 : P.underlying f2.type = some .bool) (h3 : P.underlying f3.type = some .string) (hK : ∀ a n b c, d.K W (mk a n b c) [.string a, .int .u64 n, .bool b, .string c])
    (hG : ∀ a n b c, a.size ≤ 140737488351232 → (Lit.int .u64 n).wf = true → c.size ≤ 140737488351232 → G (mk a n b c)) (hwt : ∀ a n b c, wt (mk a n b c) ≤ a.size + c.size + 5) : Opens enc P W t d G wt := by
  intro base held fuel cs x hx hw
  obtain ⟨xs, n, _, rfl, hcl, hxl, hf⟩ := DataW.trod_struct ht hx
  rw [hC] at hcl
  obtain ⟨v0, e0, g0⟩ := field_at hone hcl hf 0 f0 rfl
  obtain ⟨v1, e1, g1⟩ := field_at hone hcl hf 1 f1 rfl
  obtain ⟨v2, e2, g2⟩ := field_at hone hcl hf 2 f2 rfl
  obtain ⟨v3, e3, g3⟩ := field_at hone hcl hf 3 f3 rfl
  have hxl' : xs.length = 4 := hxl
  match xs, hxl' with
  | [y0, y1, y2, y3], _ =>
    match cs, hcl with
    | [c0, c1, c2, c3], _ =>
      simp only [List.getElem?_cons_zero, List.getElem?_cons_succ, Option.some.injEq] at e0 e1 e2 e3 g0 g1 g2 g3
      subst e0 e1 e2 e3
      simp only [List.map_cons, List.map_nil, DataW.weights, ht] at hw
      have w0 := each_mem (P := P) (j := 0) (ts := [f0.type, f1.type, f2.type, f3.type]) (ds := [y0.1, y1.1, y2.1, y3.1]) rfl rfl hw
      have w3 := each_mem (P := P) (j := 3) (ts := [f0.type, f1.type, f2.type, f3.type]) (ds := [y0.1, y1.1, y2.1, y3.1]) rfl rfl hw
      obtain ⟨s0, hk0, q0, b0⟩ := opens_str h0 base held n [c0] y0 g0 w0
      obtain ⟨s1, hk1, q1, b1⟩ := opens_int h1 base held n [c1] y1 g1 (fun n hn => by
        obtain ⟨b, _, hy, _⟩ := DataW.trod_int h1 g1
        rw [hy] at hn
        simp [DataW.weights] at hn)
      obtain ⟨s2, hk2, q2, b2⟩ := opens_bool h2 base held n [c2] y2 g2 (fun n hn => by
        obtain ⟨b, _, hy⟩ := DataW.trod_bool h2 g2
        rw [hy] at hn
        simp [DataW.weights] at hn)
      obtain ⟨s3, hk3, q3, b3⟩ := opens_str h3 base held n [c3] y3 g3 w3
      have k0 : c0 = .string s0 := List.cons.inj hk0 |>.1
      have k1 : c1 = .int .u64 s1 := List.cons.inj hk1 |>.1
      have k2 : c2 = .bool s2 := List.cons.inj hk2 |>.1
      have k3 : c3 = .string s3 := List.cons.inj hk3 |>.1
      subst k0 k1 k2 k3
      refine ⟨mk s0 s1 s2 s3, hK _ _ _ _, hG _ _ _ _ q0 q1 q3, ?_⟩
      have := hwt s0 s1 s2 s3
      dsimp only at b0 b1 b2 b3
      simp only [List.map_cons, List.map_nil, Rows.uptoBulk, Rows.uptoBulkAll]
      omega
end
section
variable {H : Type} {enc : TypeId × Value → H} {W : World}
abbrev En := QBo.S30
abbrev kEn : Kd En := QBo.k30
def wtE (x : En) : Nat := x.f0.size + x.f3.size + 5
def wtEs (l : List En) : Nat := (l.map wtE).sum + 1
def GE (x : En) : Prop := x.f0.size ≤ 140737488351232 ∧ (Lit.int .u64 x.f1).wf = true ∧ x.f3.size ≤ 140737488351232
theorem opens_entry : Opens enc Tryd.prog W 30 kEn GE wtE :=
  opens_subs (mk := fun a n b c => ⟨a, n, b, c⟩) Tryd.underlying30 (by kernel_rfl) (by kernel_rfl) Tryd.underlying9 Tryd.underlying28 Tryd.underlying4 Tryd.underlying9 (fun a n b c => QBo.k30_mk W ⟨a, n, b, c⟩) (fun a n b c h0 h1 h2 => ⟨h0, h1, h2⟩) (fun a n b c => by show a.size + c.size + 5 ≤ _; omega)
theorem opens_entries : Opens enc Tryd.prog W 25 (Kd.slice 30 kEn) (fun l => l.length * Tryd.prog.bytesOf 30 ≤ 140737488351232 ∧ ∀ x ∈ l, GE x) wtEs := opens_slice Tryd.underlying25 (by kernel_rfl) opens_entry
theorem bytesE : Tryd.prog.bytesOf 30 = 48 := by kernel_rfl
def GEs (l : List En) : Prop := l.length ≤ 140737488351232 ∧ ∀ x ∈ l, GE x
theorem entries_arg {base : Nat} {held : Bool} {a : Option Addr} {len cap : Nat} {da : DataW H} {ps : List MemPlace} {ts : List TypeId} {ds : List (DataW H)} {j : Nat}
    (hsz : (DataW.weightsEach Tryd.prog ts ds).all (· ≤ reachBytes) = true) (hts : ts[j]? = some 25) (hds : ds[j]? = some da) (h : DataW.Trod enc Tryd.prog W base (fun _ => true) held 25 (.slice a len cap) da ps) :
    ∃ l : List En, len = l.length ∧ kEn.C W a l.length l ∧ l.length ≤ cap ∧ GEs l ∧ wtEs l ≤ Rows.uptoBulk da := by
  obtain ⟨l, h1, h2, h3, ⟨h4, h5⟩, h6⟩ := slice_arg opens_entries hsz hts hds h
  rw [bytesE] at h4
  exact ⟨l, h1, h2, h3, ⟨by omega, h5⟩, h6⟩
end
end Opn
end Go.Proofs.YtaonjmkfbfhanaaDoor
/- The walk of BlockBack (this claim's own lemmas). -/
namespace Go.Proofs.YtaonjmkfbfhanaaDoor.Bk
open Go.RowKit Go.Proofs.YtaonjmkfbfhanaaDoorW.PrintWords Go.Proofs.YtaonjmkfbfhanaaDoor.Own Go.Proofs.YtaonjmkfbfhanaaDoor.G Go.Proofs.YtaonjmkfbfhanaaDoor.Wk Go.Proofs.YtaonjmkfbfhanaaDoor.QBo
open Go.Proofs.YtaonjmkfbfhanaaDoor.SmE (smallB smallB_true small_calls FitE partsE)
set_option linter.unusedVariables false
theorem made_sub : ∀ (l : List En) (m : Mk), (madeM m l).1.length ≤ l.length ∧ ∀ e ∈ (madeM m l).1, e ∈ l := by
  intro l
  induction l with
  | nil => intro m; exact ⟨Nat.le_refl _, fun e he => he⟩
  | cons x l ih =>
    intro m
    unfold madeM
    by_cases h0 : (addM m x).1 = 0
    · rw [if_pos h0]
      obtain ⟨h1, h2⟩ := ih (addM m x).2
      refine ⟨by simp only [List.length_cons]; omega, fun e he => ?_⟩
      rcases List.mem_cons.1 he with rfl | he
      · simp
      · exact List.mem_cons_of_mem _ (h2 e he)
    · rw [if_neg h0]
      obtain ⟨h1, h2⟩ := ih (addM m x).2
      exact ⟨by simp only [List.length_cons]; omega, fun e he => List.mem_cons_of_mem _ (h2 e he)⟩
theorem enW_of {L : List En} (h : Opn.GEs L) : (∀ e ∈ L, EnW e) ∧ FitE L := by
  refine ⟨fun e he => ?_, fun e he => ⟨(h.2 e he).1, (h.2 e he).2.2⟩⟩
  have z := (h.2 e he).2.1
  have z2 : 0 ≤ e.f1 ∧ e.f1 ≤ 18446744073709551615 := by simpa [Lit.wf, IntKind.min, IntKind.max, IntKind.signed, IntKind.bits] using z
  exact z2
/-- What a maker has of few entries. -/
structure MadeOk (r : Int) (L I : List En) (M : Mk) : Prop where
  adds : addsM (newM r) I = some M
  len : I.length ≤ L.length
  en : ∀ e ∈ I, EnW e
  good : GoodM r M I.length
  again : madeM (newM r) I = (I, M)
theorem made_ok {r : Int} {L I : List En} {M : Mk} (h : madeM (newM r) L = (I, M)) (hw : ∀ e ∈ L, EnW e) : MadeOk r L I M := by
  have h1 := made_push L (newM r)
  have h2 := made_sub L (newM r)
  have h3 := made_small r L hw
  rw [h] at h1 h2 h3
  exact ⟨h1, h2.1, fun e he => hw e (h2.2 e he), h3, (adds_push I h1).2.2⟩
theorem MadeOk.bytes {r : Int} {L I : List En} {M : Mk} (h : MadeOk r L I M) (hl : L.length ≤ 200) : Bytes (bytesM M) ∧ (bytesM M).length ≤ 140808 ∧ openB (bytesM M) = some (I, rsRead r I) ∧ M.data.length < 1073741824 := by
  have h1 := h.len
  have h2 := bytesM_small h.good
  have h3 := h.good.data
  have h4 := h.good.places
  refine ⟨bytesM_bytes h.good.bytes (fun p hp => ?_) (by omega), by omega, open_made r I h.adds h.en (by omega), by omega⟩
  have := h.good.small p hp
  omega
set_option maxHeartbeats 8000000 in
set_option maxRecDepth 100000 in
theorem bback_walk {w : World} {A1 : Option Addr} {n1 c1 : Nat} {L : List En} (a0 : Int) (h0 : a0 ≤ 9223372036854775807) (hr0 : Rd kE w A1 n1 c1 L) (hl : L.length ≤ 140737488351232) (hf : FitE L) (hw : ∀ e ∈ L, EnW e) (hT : GT w) :
    Calls Tryd.prog 6 #[.int .i64 a0, .slice A1 n1 c1] w fun e w' => e = .returned (.bool true) ∧ Below w.heap.size w w' := by
  have hn : L.length = n1 := hr0.1
  have HR := Aside0.mk hr0
  have HW := Aside0.mk hw
  have HT := Aside0.mk hT
  have HS := Aside0.mk (small_calls hr0 hl hf)
  obtain ⟨s, hs⟩ : ∃ s, smallB L = s := ⟨_, rfl⟩
  rw [hs] at HS
  have HSm := Aside0.mk hs
  obtain ⟨I, hI⟩ : ∃ I, (madeM (newM a0) L).1 = I := ⟨_, rfl⟩
  obtain ⟨M, hM⟩ : ∃ M, (madeM (newM a0) L).2 = M := ⟨_, rfl⟩
  have HMd : Aside0 (madeM (newM a0) L = (I, M)) := ⟨by rw [← hI, ← hM]⟩
  clear hr0 hf hw hT hs hI hM
  go_enter Tryd.func6, Tryd.ntmps6
  go_wp2_with fail
  refine HS.out.mono ?_
  rintro en W1 ⟨rfl, hb1⟩
  have HB1 := Aside0.mk hb1
  clear hb1
  cases s with
  | false =>
    go_wp2_with fail
    go_ret
    exact ⟨rfl, HB1.out⟩
  | true =>
    obtain ⟨h200, hpt⟩ := smallB_true HSm.out
    go_wp2_with fail
    refine (known_calls (HT.out.below HB1.out)).mono ?_
    rintro en W2 ⟨rfl, hb2⟩
    have HB2 := Aside0.mk (below_step HB1.out hb2)
    clear hb2
    go_wp2_with fail
    refine (made_calls a0 h0 (Kd.C_below HR.out.2.2 HB2.out) HW.out (by omega) (HT.out.below HB2.out)).mono ?_
    rintro en W3 ⟨A3, n3, c3, v3, rfl, hd3, hr3, hb3⟩
    rw [HMd.out] at hd3 hr3
    have HOk := Aside0.mk (made_ok HMd.out HW.out)
    obtain ⟨A4, q4, e4⟩ := Kd.R_slice hr3
    subst e4
    have HB3 := Aside0.mk (below_step HB2.out hb3)
    have HD3 := Aside0.mk hd3
    have HR3 := Aside0.mk (Kd.R_reads' hr3)
    have HBy := Aside0.mk (HOk.out.bytes h200)
    have hIl := HOk.out.len
    have hdl : n3 ≤ 140808 := by rw [← hd3.1]; exact HBy.out.2.1
    clear hb3 hd3 hr3
    go_wp2_with fail
    have HOp := Aside0.mk (open_calls HD3.out HBy.out.1 (by have z := HBy.out.2.1; omega) (HT.out.below HB3.out))
    rw [HBy.out.2.2.1] at HOp
    refine HOp.out.mono ?_
    clear HOp
    rintro en W4 ⟨⟨g, rfl, hK⟩, hb4⟩
    have HB4 := Aside0.mk (below_step HB3.out hb4)
    have HD4 := Aside0.mk (HD3.out.step hb4)
    have HC4 := Aside0.mk (Kd.C_below HR3.out.2.2 hb4)
    have HK := Aside0.mk hK
    clear hb4 hK
    go_wp2_with fail
    refine (num_calls 0 W4).mono ?_
    rintro en W5 ⟨rfl, rfl⟩
    obtain ⟨Ak, nk, ck, k1, k2, k3⟩ := HK.out
    obtain ⟨hk1, hk2, hk3⟩ := Kd.R_reads' k3
    have hke : nk = I.length := by omega
    subst hke
    have KC0 : Aside0 (W5.cell? ⟨g, 0, none⟩ = some (.slice Ak I.length ck)) := ⟨by rw [blk_cell k1]; rfl⟩
    have HKC := Aside0.mk hk3
    clear k1 k2 k3 hk2 hk3
    go_wp2_with fail
    refine (given_calls g I.length ck Ak I (-1) W5 (by omega) KC0.out HKC.out).mono ?_
    rintro en W6 ⟨v6, rfl, hr6, hb6⟩
    rw [givenAll] at hr6
    obtain ⟨A6, q6, e6⟩ := Kd.R_slice hr6
    subst e6
    have HR6 := Aside0.mk (Kd.R_reads' hr6)
    have HB6 := Aside0.mk (below_step HB4.out hb6)
    have HD6 := Aside0.mk (HD4.out.step hb6)
    have HC6 := Aside0.mk (Kd.C_below HC4.out hb6)
    have KC6 : Aside0 (W6.cell? ⟨g, 0, none⟩ = some (.slice Ak I.length ck)) := ⟨pw_cell_below hb6 KC0.out⟩
    have HKC6 := Aside0.mk (Kd.C_below HKC.out hb6)
    clear hr6 hb6 KC0 HKC
    go_wp2_with fail
    refine (sameEntries_calls HR6.out.2.2 HR6.out.2.1 HC6.out HR3.out.2.1 (by omega)).mono ?_
    rintro en W7 ⟨rfl, hb7⟩
    have HB7 := Aside0.mk (below_step HB6.out hb7)
    have HD7 := Aside0.mk (HD6.out.step hb7)
    have HC7 := Aside0.mk (Kd.C_below HC6.out hb7)
    have KC7 : Aside0 (W7.cell? ⟨g, 0, none⟩ = some (.slice Ak I.length ck)) := ⟨pw_cell_below hb7 KC6.out⟩
    have HKC7 := Aside0.mk (Kd.C_below HKC6.out hb7)
    clear hb7 KC6 HKC6
    go_wp2_with fail
    refine (given_calls g I.length ck Ak I (-1) W7 (by omega) KC7.out HKC7.out).mono ?_
    rintro en W8 ⟨v8, rfl, hr8, hb8⟩
    rw [givenAll] at hr8
    obtain ⟨A8, q8, e8⟩ := Kd.R_slice hr8
    subst e8
    have HR8 := Aside0.mk (Kd.R_reads' hr8)
    have HB8 := Aside0.mk (below_step HB7.out hb8)
    have HD8 := Aside0.mk (HD7.out.step hb8)
    have HC8 := Aside0.mk (Kd.C_below HC7.out hb8)
    clear hr8 hb8 KC7 HKC7
    go_wp2_with fail
    refine (made_calls a0 h0 HR8.out.2.2 HOk.out.en (by omega) (HT.out.below HB8.out)).mono ?_
    rintro en W9 ⟨A9, n9, c9, v9, rfl, hd9, hr9, hb9⟩
    rw [HOk.out.again] at hd9 hr9
    obtain ⟨AA, qA, eA⟩ := Kd.R_slice hr9
    subst eA
    have HB9 := Aside0.mk (below_step HB8.out hb9)
    have HD9 := Aside0.mk (HD8.out.step hb9)
    have HC9 := Aside0.mk (Kd.C_below HC8.out hb9)
    have HE9 := Aside0.mk hd9
    have HR9 := Aside0.mk (Kd.R_reads' hr9)
    clear hb9 hd9 hr9
    go_wp2_with fail
    refine (same_calls HE9.out HD9.out (by have z := HBy.out.2.1; omega)).mono ?_
    rintro en WA ⟨heA, hbA⟩
    rw [decide_eq_true rfl] at heA
    subst heA
    have HBA := Aside0.mk (below_step HB9.out hbA)
    have HCA := Aside0.mk (Kd.C_below HC9.out hbA)
    have HRA := Aside0.mk (Kd.C_below HR9.out.2.2 hbA)
    clear hbA
    go_wp2_with fail
    refine (sameEntries_calls HRA.out HR9.out.2.1 HCA.out HR3.out.2.1 (by omega)).mono ?_
    rintro en WB ⟨rfl, hbB⟩
    have HBB := Aside0.mk (below_step HBA.out hbB)
    clear hbB
    go_wp2_with fail
    go_ret
    exact ⟨rfl, HBB.out⟩
end Go.Proofs.YtaonjmkfbfhanaaDoor.Bk
namespace Go.Proofs.YtaonjmkfbfhanaaDoor.BlockBack
open Go.RowKit Go.Proofs.YtaonjmkfbfhanaaDoorW.PrintWords Go.Proofs.YtaonjmkfbfhanaaDoor.Own Go.Proofs.YtaonjmkfbfhanaaDoor.Wk Go.Proofs.YtaonjmkfbfhanaaDoor.QBo
set_option linter.unusedVariables false
theorem walk (a0 : Int) (w0 : (Lit.int .i64 a0).wf = true) (A1 : Option Addr) (c1 : Nat) (l1 : List Opn.En) {w' : World} (hr1 : Opn.kEn.C w' A1 l1.length l1) (hc1 : l1.length ≤ c1) (hg1 : Opn.GEs l1) (w : World) (hT : GT w) (e : w' = w := by rfl) :
    Calls Tryd.prog 6 #[.int .i64 a0, .slice A1 l1.length c1] w fun e w' => e = .returned (.bool true) ∧ Below w.heap.size w w' := by
  subst e
  have x0 : -9223372036854775808 ≤ a0 ∧ a0 ≤ 9223372036854775807 := by simpa [Lit.wf, IntKind.min, IntKind.max, IntKind.signed, IntKind.bits] using w0
  exact Bk.bback_walk a0 x0.2 ⟨rfl, hc1, hr1⟩ hg1.1 (Bk.enW_of hg1).2 (Bk.enW_of hg1).1 hT
end Go.Proofs.YtaonjmkfbfhanaaDoor.BlockBack
/- The walk of BlockTurned (this claim's own lemmas). -/
namespace Go.Proofs.YtaonjmkfbfhanaaDoor.Bk
open Go.RowKit Go.Proofs.YtaonjmkfbfhanaaDoorW.PrintWords Go.Proofs.YtaonjmkfbfhanaaDoor.Own Go.Proofs.YtaonjmkfbfhanaaDoor.G Go.Proofs.YtaonjmkfbfhanaaDoor.Wk Go.Proofs.YtaonjmkfbfhanaaDoor.QBo
open Go.Proofs.YtaonjmkfbfhanaaDoor.SmE (smallB smallB_true small_calls FitE partsE)
set_option linter.unusedVariables false
theorem turn_eq (l : List Int) (P j : Nat) : l.set ((((P + j) / 8 : Nat) : Int).toNat) (bits .xor .u8 (rdOf (0 : Int) l (((P : Int) + (j : Int)) / 8)) ((2 : Int) ^ ((P + j) % 8) % 256)) = l.set ((P + j) / 8) (bits .xor .u8 (rd l (((P + j) / 8 : Nat) : Int)) ((2 ^ ((P + j) % 8) : Nat) : Int)) := by
  rw [Int.toNat_natCast, show (((P : Int) + (j : Int)) / 8) = (((P + j) / 8 : Nat) : Int) by omega]
  have : (P + j) % 8 = 0 ∨ (P + j) % 8 = 1 ∨ (P + j) % 8 = 2 ∨ (P + j) % 8 = 3 ∨ (P + j) % 8 = 4 ∨ (P + j) % 8 = 5 ∨ (P + j) % 8 = 6 ∨ (P + j) % 8 = 7 := by omega
  rcases this with e | e | e | e | e | e | e | e <;> rw [e] <;> rfl
theorem low_zero (T m i : Nat) (h : T % 2 ^ m = 0) (hi : i < m) : T / 2 ^ i % 2 = 0 := by
  have h1 : (T % 2 ^ m).testBit i = T.testBit i := by rw [Nat.testBit_mod_two_pow]; simp [hi]
  rw [h, Nat.zero_testBit] at h1
  rw [bit_of, ← h1]
  rfl
theorem same_bits {l f : List Int} (hl : Bytes l) (hf : Bytes f) (hlen : l.length = f.length) (h : ∀ q, q < 8 * l.length → bitAt l q = bitAt f q) : l = f := by
  apply List.ext_getElem hlen
  intro i h1 h2
  obtain ⟨a, ha⟩ := Int.eq_ofNat_of_zero_le (bytes_rd hl i h1).1
  obtain ⟨b, hb⟩ := Int.eq_ofNat_of_zero_le (bytes_rd hf i h2).1
  have ha2 := (bytes_rd hl i h1).2
  have hb2 := (bytes_rd hf i h2).2
  have he : a = b := bits_byte (by omega) (by omega) (fun j hj => by
    have hq := h (8 * i + j) (by omega)
    unfold bitAt at hq
    rw [show (8 * i + j) / 8 = i by omega, show (8 * i + j) % 8 = j by omega, ha, hb] at hq
    exact hq)
  rw [he, ← hb] at ha
  simp only [rd, Int.toNat_natCast, List.getD_eq_getElem?_getD, List.getElem?_eq_getElem h1, List.getElem?_eq_getElem h2, Option.getD_some] at ha
  exact ha
theorem own_block {W : World} {base n c : Nat} {ok : Nat → Prop} {A : Option Addr} {l : List Int} (h : Kd.R (Kd.int .u8) 5 W base ok (.slice A n c) l) (hn : 0 < n) : ∃ g, A = some ⟨g, 0, none⟩ ∧ base ≤ g := by
  obtain ⟨inner, hi⟩ := Kd.R_own h
  have hl := (Kd.R_reads' h).1
  obtain ⟨_, hh⟩ := hi
  rcases hh with ⟨hv, h0⟩ | ⟨g, cap, cur, hv, hb, _⟩
  · omega
  · injection hv with e1
    exact ⟨g, e1, hb⟩
/-- A number from 0 to n - 1. -/
theorem place_some (a n : Int) (h : 0 < n) (hn : n ≤ 4611686018427387904) : ∃ P : Nat, screelaw9_place.f a n = some (P : Int) ∧ (P : Int) < n := by
  unfold screelaw9_place.f
  have h1 := Int.tmod_lt_of_pos a h
  have h2 : -n < Int.tmod a n := by
    have z := Int.tmod_lt_of_pos (-a) h
    rw [Int.neg_tmod] at z
    omega
  rw [if_neg (by omega)]
  by_cases h3 : Int.tmod a n < 0
  · rw [if_pos h3]
    refine ⟨(Int.tmod a n + n).toNat, ?_, by omega⟩
    rw [show wrap64 (Int.tmod a n + n) = Int.tmod a n + n by unfold wrap64; omega]
    congr 1
    omega
  · rw [if_neg h3]
    exact ⟨(Int.tmod a n).toNat, by congr 1; omega, by omega⟩
theorem place_calls {a n : Int} {P : Nat} (h : screelaw9_place.f a n = some (P : Int)) (w : World) : Calls Tryd.prog 26 #[.int .i64 a, .int .i64 n] w fun e w' => e = .returned (.int .i64 (P : Int)) ∧ Below w.heap.size w w' := by
  refine (screelaw9_place.calls a n (P : Int) w h).mono ?_
  rintro e w' ⟨rfl, hd⟩
  exact ⟨rfl, hd.below⟩
set_option maxHeartbeats 16000000 in
set_option maxRecDepth 100000 in
theorem turned_walk {w : World} {A1 : Option Addr} {n1 c1 : Nat} {L : List En} (a0 : Int) (h0 : a0 ≤ 9223372036854775807) (hr0 : Rd kE w A1 n1 c1 L) (hl : L.length ≤ 140737488351232) (hf : FitE L) (hw : ∀ e ∈ L, EnW e) (a2 : Int) (T : Nat) (hTT : T < 4294967296) (a4 : Int) (hT : GT w) :
    Calls Tryd.prog 8 #[.int .i64 a0, .slice A1 n1 c1, .int .i64 a2, .int .u32 (T : Int), .int .i64 a4] w fun e w' => e = .returned (.bool true) ∧ Below w.heap.size w w' := by
  have hn : L.length = n1 := hr0.1
  have HR := Aside0.mk hr0
  have HW := Aside0.mk hw
  have HT := Aside0.mk hT
  have HTT := Aside0.mk hTT
  have HS := Aside0.mk (small_calls hr0 hl hf)
  obtain ⟨s, hs⟩ : ∃ s, smallB L = s := ⟨_, rfl⟩
  rw [hs] at HS
  have HSm := Aside0.mk hs
  obtain ⟨I, hI⟩ : ∃ I, (madeM (newM a0) L).1 = I := ⟨_, rfl⟩
  obtain ⟨M, hM⟩ : ∃ M, (madeM (newM a0) L).2 = M := ⟨_, rfl⟩
  have HMd : Aside0 (madeM (newM a0) L = (I, M)) := ⟨by rw [← hI, ← hM]⟩
  clear hr0 hf hw hT hs hI hM hTT
  go_enter Tryd.func8, Tryd.ntmps8
  go_wp2_with fail
  refine HS.out.mono ?_
  rintro en W1 ⟨rfl, hb1⟩
  have HB1 := Aside0.mk hb1
  clear hb1
  cases s with
  | false =>
    go_wp2_with fail
    go_ret
    exact ⟨rfl, HB1.out⟩
  | true =>
    obtain ⟨h200, hpt⟩ := smallB_true HSm.out
    go_wp2_with fail
    refine (known_calls (HT.out.below HB1.out)).mono ?_
    rintro en W2 ⟨rfl, hb2⟩
    have HB2 := Aside0.mk (below_step HB1.out hb2)
    clear hb2
    go_wp2_with fail
    refine (made_calls a0 h0 (Kd.C_below HR.out.2.2 HB2.out) HW.out (by omega) (HT.out.below HB2.out)).mono ?_
    rintro en W3 ⟨A3, n3, c3, v3, rfl, hd3, hr3, hb3⟩
    rw [HMd.out] at hd3 hr3
    have HOk := Aside0.mk (made_ok HMd.out HW.out)
    obtain ⟨A4, q4, e4⟩ := Kd.R_slice hr3
    subst e4
    obtain ⟨b, hbb⟩ : ∃ b, bytesM M = b := ⟨_, rfl⟩
    have HBM := Aside0.mk hbb
    have hd3' : Rd (Kd.int .u8) W3 A3 n3 c3 b := by rw [← hbb]; exact hd3
    have HB3 := Aside0.mk (below_step HB2.out hb3)
    have HD3 := Aside0.mk hd3'
    have hBy := HOk.out.bytes h200
    rw [hbb] at hBy
    have HBy := Aside0.mk hBy
    have hbl : b.length = n3 := hd3'.1
    have hIl := HOk.out.len
    have hdl : n3 ≤ 140808 := by rw [← hbl]; exact hBy.2.1
    have hd8 : 8 ≤ n3 := by rw [← hbl, ← hbb, bytesM_len]; omega
    have HT3 := Aside0.mk (HT.out.below HB3.out)
    obtain ⟨P, hP, hPl⟩ := place_some a2 (8 * (n3 : Int)) (by omega) (by omega)
    obtain ⟨K, hK, hKl⟩ := place_some a4 (n3 : Int) (by omega) (by omega)
    have HP := Aside0.mk hP
    have HK := Aside0.mk hK
    have HPr : Aside0 (openB (b.take K) = none) := ⟨by
      have z := prefix_none (r := a0) (L := I) (m := M) HOk.out.adds HOk.out.en (by rw [hbb]; exact hBy.1) hBy.2.2.2 K (by rw [hbb]; omega)
      rwa [hbb] at z⟩
    clear hb3 hd3 hd3' hr3 hbb hBy hP hK
    go_wp2_with fail
    refine (place_calls HP.out W3).mono ?_
    rintro en W4 ⟨rfl, hb4⟩
    have HB4 := Aside0.mk (below_step HB3.out hb4)
    have HD4 := Aside0.mk (HD3.out.step hb4)
    clear hb4
    have HRf := Aside0.mk (Below.refl W4.heap.size W4)
    have PL : Aside0 ((0 + n3) * 1 ≤ 140737488355328) := ⟨by omega⟩
    go_wp2_with ((with_reducible refine gate_builtin (b := .append) (xs := #[.const (.slice none 0 0), .tmp 44]) rfl ?_); at_builtin; go_must (refine Kd.R_append_rows (Kd.int .u8) (w0 := W4) W4.heap.size rfl (.const (.slice none 0 0)) (.tmp 44) 22 5 (.int .u8 0) 1 rfl Tryd.underlying22 infoU rfl (by decide) (by omega) (.slice none 0 0) ([] : List Int) b _ _ _ (fun _ => True) (fun _ => False) rfl rfl ?aO ?aR (fun _ _ h => h) (fun _ h => h.elim) (fun _ _ => trivial) HRf.out (Nat.le_refl _) ?aL ?_); (case aO => exact Kd.R_nil _ _ _ _ _); (case aR => exact HD4.out.2.2); (case aL => exact PL.out); intro v5 W5 ho hb hg_ hn_; (obtain ⟨A5, q5, e5⟩ := Kd.R_slice ho); subst e5; (have HO := Aside0.mk ho); (have HB5 := Aside0.mk hb); clear ho hb hg_ hn_)
    rw [List.nil_append] at HO
    rw [hbl] at HO
    obtain ⟨g, rfl, hg⟩ := own_block HO.out (by omega)
    go_wp2_with fail
    try rw [hbl]
    go_loopw [15] (fun i wr => ∃ (j : Nat) (l : List Int), j ≤ 32 ∧ P + j ≤ 8 * n3 ∧ i = .int .i64 (j : Int) ∧ Aside0 (Bytes l) ∧ Aside0 (Below W4.heap.size W4 wr) ∧ Aside0 (Kd.R (Kd.int .u8) 5 wr W4.heap.size (fun _ => True) (.slice (some ⟨g, 0, none⟩) n3 q5) l) ∧ Aside0 (∀ q, q < 8 * n3 → bitAt l q = bitAt b q ^^^ dm P T j q)) (fun i _ => 32 - (intOf i).toNat)
    case atStart => exact ⟨0, b, by omega, by omega, rfl, ⟨HBy.out.1⟩, HB5, HO, ⟨fun q hq => by unfold dm; rw [if_neg (by omega), Nat.xor_zero]⟩⟩
    case round =>
      clear HO HB5
      obtain ⟨j, l, hj, hPj, rfl, HLL, HBL, HRL, HBT⟩ := hrel
      have hln : l.length = n3 := by have z := (Kd.R_reads' HRL.out).1; omega
      by_cases hgo : j < 32 ∧ P + j < 8 * n3
      · obtain ⟨hlt, hp⟩ := hgo
        by_cases hbit : T / 2 ^ j % 2 = 1
        · have hd72 : (((T : Int) / 2 ^ j).tmod 2 == 1) = true := by rw [beq_iff_eq, show ((T : Int) / 2 ^ j) = ((T / 2 ^ j : Nat) : Int) by simp, show ((T / 2 ^ j : Nat) : Int).tmod 2 = ((T / 2 ^ j % 2 : Nat) : Int) from rfl, hbit]; rfl
          obtain ⟨hcell, hfz⟩ := Kd.R_celln (0 : Int) HRL.out (((P + j) / 8 : Nat) : Int) (by omega) (by omega)
          rw [Int.toNat_natCast] at hcell hfz
          have HLn := Aside0.mk hln
          clear hln
          go_wp2_with fail
          refine ⟨?_, by simp [intOf] <;> omega⟩
          refine ⟨j + 1, _, by omega, by omega, by go_num, ?d2, ?d3, ⟨Kd.R_putn HRL.out (((P + j) / 8 : Nat) : Int) _⟩, ?d4⟩
          case d2 => rw [turn_eq]; exact ⟨flip_bytes HLL.out (P + j) (by have := HLn.out; omega)⟩
          case d3 => exact ⟨HBL.out.setCell (p := ⟨g, (P + j) / 8, none⟩) hg _⟩
          case d4 => rw [turn_eq]; exact ⟨fun q hq => by rw [bitAt_flip _ HLL.out _ _ (by have := HLn.out; omega), HBT.out q hq, dm_step, hbit, Nat.xor_assoc]⟩
        · have hd72 : (((T : Int) / 2 ^ j).tmod 2 == 1) = false := by rw [beq_eq_false_iff_ne, show ((T : Int) / 2 ^ j) = ((T / 2 ^ j : Nat) : Int) by simp, show ((T / 2 ^ j : Nat) : Int).tmod 2 = ((T / 2 ^ j % 2 : Nat) : Int) from rfl]; omega
          go_wp2_with fail
          refine ⟨?_, by simp [intOf] <;> omega⟩
          exact ⟨j + 1, l, by omega, by omega, by go_num, HLL, HBL, HRL, ⟨fun q hq => by rw [HBT.out q hq, dm_step, show T / 2 ^ j % 2 = 0 by omega]; simp⟩⟩
      · have hJ : j = min 32 (8 * n3 - P) := by omega
        have HJ := Aside0.mk hJ
        clear hJ
        have HLd : Aside0 (Rd (Kd.int .u8) wr (some ⟨g, 0, none⟩) n3 q5 l) := ⟨by obtain ⟨h1, h2, h3⟩ := Kd.R_reads' HRL.out; exact ⟨h1.symm, h2, by rw [h1]; exact h3⟩⟩
        have HBw := Aside0.mk (below_step HB4.out HBL.out)
        have HTr := Aside0.mk (HT.out.below HBw.out)
        have HDr := Aside0.mk (HD4.out.step HBL.out)
        have hx : (j < 32 ∧ ¬ P + j < 8 * n3) ∨ ¬ j < 32 := by omega
        obtain ⟨lb, hlb⟩ : ∃ lb, decide (l = b) = lb := ⟨_, rfl⟩
        have HLB := Aside0.mk hlb
        have HOp := Aside0.mk (open_calls HLd.out HLL.out (by omega) HTr.out)
        have HCut : Aside0 (∀ W : World, (Instr.slice 22 (.slice A3 n3 c3) none (some (.int .i64 (K : Int))) none).run Tryd.prog W = .ok (.slice A3 K c3) W) := ⟨Rd.to Tryd.underlying22 infoU .i64 A3 n3 c3 K (by omega) (by have z := HD3.out.2.1; omega)⟩
        clear hlb
        cases lb with
        | true =>
          have HE : Aside0 (l = b) := ⟨of_decide_eq_true HLB.out⟩
          rw [HE.out, HBy.out.2.2.1] at HOp
          all_goals
            rcases hx with ⟨hx1, hx2⟩ | hx1
            all_goals
              go_wp2_with fail
              refine HOp.out.mono ?_
              rintro en W6 ⟨⟨gk, rfl, hKk⟩, hb6⟩
              clear hKk
              have HB6 := Aside0.mk (below_step HBw.out hb6)
              have HD6 := Aside0.mk (HDr.out.step hb6)
              have HL6 := Aside0.mk (HLd.out.step hb6)
              clear hb6
              go_wp2_with fail
              refine (same_calls HL6.out HD6.out (by omega)).mono ?_
              rintro en W7 ⟨he7, hb7⟩
              rw [HLB.out] at he7
              subst he7
              have HB7 := Aside0.mk (below_step HB6.out hb7)
              have HD7 := Aside0.mk (HD6.out.step hb7)
              clear hb7
              go_wp2_with fail
              refine (place_calls HK.out W7).mono ?_
              rintro en W8 ⟨rfl, hb8⟩
              have HB8 := Aside0.mk (below_step HB7.out hb8)
              have HD8 := Aside0.mk (HD7.out.step hb8)
              have HOq := Aside0.mk (open_calls (HD8.out.take K (by omega)) (fun x hx => HBy.out.1 x (List.mem_of_mem_take hx)) (by rw [List.length_take]; omega) (HT.out.below HB8.out))
              rw [HPr.out] at HOq
              have hcut := HCut.out
              clear hb8
              go_wp2_with fail
              refine HOq.out.mono ?_
              rintro en W9 ⟨he9, hb9⟩
              have he9' : en = .returned (.tuple #[.pointer none, .int .i64 91]) := he9
              subst he9'
              have HB9 := Aside0.mk (below_step HB8.out hb9)
              clear hb9 he9 hcut
              go_wp2_with fail
              refine (num_calls 91 W9).mono ?_
              rintro en WA ⟨rfl, rfl⟩
              go_wp2_with fail
              go_ret
              exact ⟨rfl, HB9.out⟩
        | false =>
          have HE : Aside0 (¬ l = b) := ⟨of_decide_eq_false HLB.out⟩
          have HON : Aside0 (openB l = none) := ⟨turned_none HBy.out.1 HLL.out (by omega) HBM.out (dm P T j) (fun q hq => HBT.out q (by omega)) P (8 * n3 - P) T HTT.out (by omega) (fun q hq => by unfold dm; rw [if_neg (by omega)]) (fun i hi => by
            unfold dm
            have hjj := HJ.out
            by_cases h3 : i < j
            · rw [if_pos ⟨by omega, by omega⟩, show P + i - P = i by omega]
            · rw [if_neg (by omega), Nat.div_eq_of_lt (Nat.lt_of_lt_of_le HTT.out (Nat.pow_le_pow_right (n := 2) (i := 32) (by omega) (by omega)))]) (by
            intro hz0
            apply HE.out
            have hz : T % 2 ^ j = 0 := by
              have hjj := HJ.out
              by_cases h4 : 8 * n3 - P ≤ 32
              · rw [show j = 8 * n3 - P by omega]; exact hz0
              · have ht : T < 2 ^ (8 * n3 - P) := Nat.lt_of_lt_of_le HTT.out (Nat.pow_le_pow_right (n := 2) (i := 32) (by omega) (by omega))
                rw [Nat.mod_eq_of_lt ht] at hz0
                rw [hz0, Nat.zero_mod]
            refine same_bits HLL.out HBy.out.1 (by omega) (fun q hq => ?_)
            rw [HBT.out q (by omega)]
            unfold dm
            by_cases h3 : P ≤ q ∧ q < P + j
            · rw [if_pos h3, low_zero T j _ hz (by omega), Nat.xor_zero]
            · rw [if_neg h3, Nat.xor_zero])⟩
          rw [HON.out] at HOp
          rcases hx with ⟨hx1, hx2⟩ | hx1
          all_goals
            go_wp2_with fail
            refine HOp.out.mono ?_
            rintro en W6 ⟨he6, hb6⟩
            have he6' : en = .returned (.tuple #[.pointer none, .int .i64 91]) := he6
            subst he6'
            have HB6 := Aside0.mk (below_step HBw.out hb6)
            have HD6 := Aside0.mk (HDr.out.step hb6)
            have HL6 := Aside0.mk (HLd.out.step hb6)
            clear hb6 he6
            go_wp2_with fail
            refine (same_calls HL6.out HD6.out (by omega)).mono ?_
            rintro en W7 ⟨he7, hb7⟩
            rw [HLB.out] at he7
            subst he7
            have HB7 := Aside0.mk (below_step HB6.out hb7)
            have HD7 := Aside0.mk (HD6.out.step hb7)
            clear hb7
            go_wp2_with fail
            refine (num_calls 91 W7).mono ?_
            rintro en WZ ⟨rfl, rfl⟩
            go_wp2_with fail
            refine (place_calls HK.out _).mono ?_
            rintro en W8 ⟨rfl, hb8⟩
            have HB8 := Aside0.mk (below_step HB7.out hb8)
            have HD8 := Aside0.mk (HD7.out.step hb8)
            have HOq := Aside0.mk (open_calls (HD8.out.take K (by omega)) (fun x hx => HBy.out.1 x (List.mem_of_mem_take hx)) (by rw [List.length_take]; omega) (HT.out.below HB8.out))
            rw [HPr.out] at HOq
            have hcut := HCut.out
            clear hb8
            go_wp2_with fail
            refine HOq.out.mono ?_
            rintro en W9 ⟨he9, hb9⟩
            have he9' : en = .returned (.tuple #[.pointer none, .int .i64 91]) := he9
            subst he9'
            have HB9 := Aside0.mk (below_step HB8.out hb9)
            clear hb9 he9 hcut
            go_wp2_with fail
            refine (num_calls 91 W9).mono ?_
            rintro en WA ⟨rfl, rfl⟩
            go_wp2_with fail
            go_ret
            exact ⟨rfl, HB9.out⟩
end Go.Proofs.YtaonjmkfbfhanaaDoor.Bk
namespace Go.Proofs.YtaonjmkfbfhanaaDoor.BlockTurned
open Go.RowKit Go.Proofs.YtaonjmkfbfhanaaDoorW.PrintWords Go.Proofs.YtaonjmkfbfhanaaDoor.Own Go.Proofs.YtaonjmkfbfhanaaDoor.Wk Go.Proofs.YtaonjmkfbfhanaaDoor.QBo
set_option linter.unusedVariables false
theorem walk (a0 : Int) (w0 : (Lit.int .i64 a0).wf = true) (A1 : Option Addr) (c1 : Nat) (l1 : List Opn.En) {w' : World} (hr1 : Opn.kEn.C w' A1 l1.length l1) (hc1 : l1.length ≤ c1) (hg1 : Opn.GEs l1) (a2 : Int) (w2 : (Lit.int .i64 a2).wf = true) (a3 : Int) (w3 : (Lit.int .u32 a3).wf = true) (a4 : Int) (w4 : (Lit.int .i64 a4).wf = true) (w : World) (hT : GT w) (e : w' = w := by rfl) :
    Calls Tryd.prog 8 #[.int .i64 a0, .slice A1 l1.length c1, .int .i64 a2, .int .u32 a3, .int .i64 a4] w fun e w' => e = .returned (.bool true) ∧ Below w.heap.size w w' := by
  subst e
  have x0 : -9223372036854775808 ≤ a0 ∧ a0 ≤ 9223372036854775807 := by simpa [Lit.wf, IntKind.min, IntKind.max, IntKind.signed, IntKind.bits] using w0
  have x3 : 0 ≤ a3 ∧ a3 ≤ 4294967295 := by simpa [Lit.wf, IntKind.min, IntKind.max, IntKind.signed, IntKind.bits] using w3
  obtain ⟨T, rfl⟩ := Int.eq_ofNat_of_zero_le x3.1
  exact Bk.turned_walk a0 x0.2 ⟨rfl, hc1, hr1⟩ hg1.1 (Bk.enW_of hg1).2 (Bk.enW_of hg1).1 a2 T (by omega) a4 hT
end Go.Proofs.YtaonjmkfbfhanaaDoor.BlockTurned
namespace Go.Proofs.YtaonjmkfbfhanaaDoor.blockTurned
open Go.ChangeShapes Go.WideShapes Go.ChangeAt Go.RowKit
open Go.ChangeMaps (open_string shut_string)
set_option linter.unusedVariables false
theorem own : ownKnob Tryd.prog.godebug = none := by kernel_rfl
theorem laidOut : laidOutB Tryd.prog = true := by kernel_rfl
def IsRow (k : IntKind) (w : World) (a : Option Addr) (len cap : Nat) (zs : List Int) : Prop :=
  (a = none ∧ len = 0 ∧ cap = 0 ∧ zs = []) ∨
  ∃ x, a = some x ∧ len ≤ cap ∧ cap ≤ maxLen ∧ zs.length = cap ∧ (∀ i, i < zs.length → w.cell? (x.add i) = some (.int k (zs.getD i 0))) ∧ ∀ n ∈ zs, (Lit.int k n).wf = true
theorem gTab : Tryd.prog.globalNamed "scree/codec.nibbles" = some 0 := by kernel_rfl
theorem gTabType : (Tryd.prog.globals[0]?).map (·.type) = some 161 := by kernel_rfl
theorem cellsA : Tryd.prog.cellsOf 161 = 16 := by kernel_rfl
theorem cellsE : Tryd.prog.cellsOf 59 = 1 := by kernel_rfl
theorem table {W : World} (h : laidMetH Tryd.prog Rows.blockTurnedRow.laid W) : Lib.TabIs Tryd.prog W "scree/codec.nibbles" .u32 Own.nibs :=
  Lib.tabIs_of_head (rest := []) gTab gTabType Tryd.underlying161 Tryd.underlying59 cellsE cellsA h
theorem gt {W : World} (h : laidMetH Tryd.prog Rows.blockTurnedRow.laid W) : Own.GT W := fun i hi => by
  have hl : i < Own.nibs.length := by simpa [Own.nibs] using hi
  have := (table h).cell gTab i hl
  simpa [List.getD_eq_getElem?_getD, hl] using this
set_option maxRecDepth 100000 in
theorem contract (H : Type) (enc : TypeId × Value → H) (W : World) (base : Nat) (args : Array Value) (ds gs : List (DataW H)) (before : List MemPlace)
    (hval : ∀ (j : Nat) t v, Tryd.f8.params[j]? = some t → args[j]? = some v → Value.okWide Tryd.prog W .any base t v)
    (hW : DataW.Whole enc Tryd.prog Tryd.f8.params.toList Rows.blockTurnedSpec.vars false W args.toList ds gs before)
    (hsz0 : (DataW.weightsEach Tryd.prog (Tryd.f8.params.toList ++ Rows.blockTurnedSpec.plain.varTypes Tryd.prog) (ds ++ gs)).all (· ≤ reachBytes) = true) (hL : laidMetH Tryd.prog Rows.blockTurnedRow.laid W) :
    Calls Tryd.prog 8 args W fun e W' => ∃ v, e = .returned v ∧ Rows.blockTurnedSpec.post enc Tryd.prog Tryd.f8 false true false false W args v W' := by
  have hW' := hW
  have hsz := hsz0
  obtain ⟨p, q, hA0, hV, rfl, hfz, hnd⟩ := hW
  have hA : DataW.TrodAll enc Tryd.prog W 0 (fun _ => true) true Tryd.f8.params.toList args.toList ds p := hA0
  rw [Tryd.params8] at hA hval hsz
  obtain ⟨v0, vs0, d0, ds0, p0, q0, hargs, rfl, rfl, h0, r0⟩ := trodAll_cons hA
  obtain ⟨v1, vs1, d1, ds1, p1, q1, rfl, rfl, rfl, h1, r1⟩ := trodAll_cons r0
  obtain ⟨v2, vs2, d2, ds2, p2, q2, rfl, rfl, rfl, h2, r2⟩ := trodAll_cons r1
  obtain ⟨v3, vs3, d3, ds3, p3, q3, rfl, rfl, rfl, h3, r3⟩ := trodAll_cons r2
  obtain ⟨v4, vs4, d4, ds4, p4, q4, rfl, rfl, rfl, h4, r4⟩ := trodAll_cons r3
  obtain ⟨rfl, rfl, rfl⟩ := trodAll_nil r4
  obtain rfl : args = #[v0, v1, v2, v3, v4] := by cases args; simp_all
  obtain ⟨rfl, rfl⟩ := trodVars_none hV
  obtain ⟨a0, rfl, rfl, rfl, w0⟩ := open_int Tryd.underlying3 (hval 0 3 v0 rfl rfl) h0
  obtain ⟨a1, len1, cap1, rfl⟩ := okWide_slice Tryd.underlying25 (hval 1 25 v1 rfl rfl)
  have k1 := h1
  have lt1 : ∀ x ∈ p1, x.block < W.heap.size := by obtain ⟨m, hm⟩ := k1; exact DataW.trod_lt m _ _ _ hm
  obtain ⟨l1, el1, hr1, hc1, hg1, dz1⟩ := Opn.entries_arg (j := 1) hsz rfl rfl h1
  subst el1
  obtain ⟨a2, rfl, rfl, rfl, w2⟩ := open_int Tryd.underlying3 (hval 2 3 v2 rfl rfl) h2
  obtain ⟨a3, rfl, rfl, rfl, w3⟩ := open_int Tryd.underlying59 (hval 3 59 v3 rfl rfl) h3
  obtain ⟨a4, rfl, rfl, rfl, w4⟩ := open_int Tryd.underlying3 (hval 4 3 v4 rfl rfl) h4
  refine (BlockTurned.walk a0 w0 a1 cap1 l1 hr1 hc1 hg1 a2 w2 a3 w3 a4 w4 W (gt hL)).mono fun e W' ⟨he, bel⟩ => ?_
  subst he
  exact ⟨_, rfl, _, _, _, [], _, [], hW', trodAll_mk1 (shut_bool Tryd.underlying4 _), (trodAll_cons_mk (shut_int Tryd.underlying3 w0) (trodAll_cons_mk (Below.trod laidOut (by kernel_rfl) (of_decide_eq_true (by kernel_rfl)) k1 bel lt1) (trodAll_cons_mk (shut_int Tryd.underlying3 w2) (trodAll_cons_mk (shut_int Tryd.underlying59 w3) (trodAll_cons_mk (shut_int Tryd.underlying3 w4) trodAll_mk0))))), rfl, bel.frame _, fun h => by cases h⟩
noncomputable def laidWorld (os : Os) : World :=
  { World.holding Tryd.prog os ⟨#[], #[], []⟩ with heap := (World.holding Tryd.prog os ⟨#[], #[], []⟩).heap.modify 0 fun
      | .cells _ t frozen => .cells #[.int .u32 0, .int .u32 274646895, .int .u32 549293790, .int .u32 820201905, .int .u32 1098587580, .int .u32 1361435347, .int .u32 1640403810, .int .u32 1905808397, .int .u32 2197175160, .int .u32 2460548119, .int .u32 2722870694, .int .u32 2987750089, .int .u32 3280807620, .int .u32 3553878443, .int .u32 3811616794, .int .u32 4084100981] t frozen
      | o => o }
theorem laid_met (os : Os) : laidMet Tryd.prog Rows.blockTurnedRow.laid ((laidWorld os).forCall (fun _ _ => 0) ⟨#[], #[.int .i64 0, .slice none 0 0, .int .i64 0, .int .u32 0, .int .i64 0], []⟩).memory :=
  laidMet_of_run' 8 (by kernel_rfl) (by kernel_rfl)
theorem reads (os : Os) {H : Type} (enc : TypeId × Value → H) : ∃ places, DataW.whole enc Tryd.prog ((laidWorld os).forCall (fun _ _ => 0) ⟨#[], #[.int .i64 0, .slice none 0 0, .int .i64 0, .int .u32 0, .int .i64 0], []⟩).memory Tryd.f8.params.toList Rows.blockTurnedSpec.vars false #[.int .i64 0, .slice none 0 0, .int .i64 0, .int .u32 0, .int .i64 0].toList 8 = some ([.lit (.int .i64 0), .nil, .lit (.int .i64 0), .lit (.int .u32 0), .lit (.int .i64 0)], [], places) :=
  ⟨[], by kernel_rfl⟩
set_option maxRecDepth 100000 in
theorem lifted (os : Os) (started : os.Started) (H : Type) (enc : TypeId × Value → H) (F : Stop.Interp) :
    ReturnsInHanded {} Tryd.checked os 8 .any ((OpenSpec.ofChange Rows.blockTurnedSpec).preRow enc Tryd.prog Tryd.f8 Rows.blockTurnedRow.domain false Rows.blockTurnedRow.laid) (((OpenSpec.ofChange Rows.blockTurnedSpec).at F).post enc Tryd.prog Tryd.f8 false true false false) := by
  obtain ⟨places, hx⟩ := reads os enc
  refine returnsInHanded_of_row (C := Tryd.checked) (s := OpenSpec.ofChange Rows.blockTurnedSpec) own started (by kernel_rfl) Tryd.func8
    (witness_row_at (enc := enc) (C := Tryd.checked) false (laidWorld os) #[.int .i64 0, .slice none 0 0, .int .i64 0, .int .u32 0, .int .i64 0] rfl (by kernel_rfl) (by kernel_rfl) (by kernel_rfl)
      (OpenSpec.preRow_of_cond 8 hx (by kernel_rfl) (fun k hk => by cases hk) (by kernel_rfl) (laid_met os))) ?_
  intro W base args ds gs before hval hW _ _ hsz hL _ _
  exact contract H enc W base args ds gs before hval hW hsz hL
theorem said : Rows.BlockTurnedSaid :=
  OpenClaim.holds_of_cond 8 Tryd.f8 rfl rfl rfl rfl rfl rfl rfl ⟨rfl, rfl, rfl, rfl, rfl⟩ rfl rfl rfl rfl rfl (by kernel_rfl) Tryd.func8 (by kernel_rfl)
    (of_decide_eq_true (by kernel_rfl)) (by unfold Func.isWrapper; first | (rw [if_pos (by decide +kernel)]; kernel_rfl) | (rw [if_neg (by decide +kernel)]; exact ⟨rfl, rfl⟩))
    (fun os started H enc _ F => by rw [OpenClaim.pre_eq_preRow]; exact lifted os started H enc F)
theorem plain (f : FuncId) (fn : Func) (hf : Tryd.pinned.checked.prog.funcNamed "scree/screelaw9.BlockTurned" = some f) (hfn : Tryd.pinned.checked.prog.funcs[f]? = some fn) :
    false = Tryd.pinned.checked.prog.looks [] ∧ ∀ (j : Nat) t, fn.params[j]? = some t → Tryd.pinned.checked.prog.wantsStandIn t = false := by
  obtain rfl : f = 8 := Option.some.inj ((show Tryd.prog.funcNamed "scree/screelaw9.BlockTurned" = some 8 by kernel_rfl).symm.trans hf) |>.symm
  obtain rfl : fn = Tryd.f8 := (Option.some.inj (Tryd.func8.symm.trans hfn)).symm
  refine ⟨by kernel_rfl, fun j t ht => ?_⟩
  rw [Tryd.params8] at ht
  have hm : t ∈ [3, 25, 3, 59, 3] := by have := Array.mem_of_getElem? ht; simpa using this
  have hall : ([3, 25, 3, 59, 3].all fun u => !Tryd.prog.wantsStandIn u) = true := by kernel_rfl
  exact (show Tryd.prog.wantsStandIn t = false by simpa using List.all_eq_true.1 hall t hm)
theorem proved : Rows.BlockTurnedCardSaid :=
  Claim7.holds_tied_plain_at .later [] _ _ _ _ said (fun _ h => by cases h) (by kernel_rfl) (fun _ h => by cases h) blockTurned_row_tie rfl ⟨rfl, rfl⟩ (by kernel_rfl) rfl plain (by kernel_rfl)
#print axioms proved
end Go.Proofs.YtaonjmkfbfhanaaDoor.blockTurned
