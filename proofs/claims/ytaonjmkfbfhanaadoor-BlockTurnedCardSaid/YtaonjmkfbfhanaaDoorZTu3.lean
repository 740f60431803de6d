/- Lemmas of this claim's own, put together: DBkD, DMkO, DMkE, QBox1, QBox4, QBox13, DMkS, DMkD, DMkK, DGvI, DGvN, DGvC. -/
import Derived.Test.YtaonjmkfbfhanaaDoorZTu1
import Derived.BigQuiet
import Derived.Deep.QuietTactic
import Derived.Deep.DeepCutAuto
import Derived.Deep.RegionWith
import Derived.Deep.RegionLaw
import Derived.Test.YtaonjmkfbfhanaaDoorZTu2
import Derived.WalkMore
import Derived.RangeFuncNested
import Derived.RangeFuncBound
import Derived.RangeFuncCalls
import Derived.RangeFuncLeaves
import Derived.RangeFuncBox
import Derived.Shelf.Abstract
import Derived.WalkKit
import Derived.OwnWalkIn
import Derived.TacticsInMore
import Derived.LoopNIn
import Derived.LoopIn
import Derived.WalkLawsBesides
/- block.read (this claim's own lemmas). -/
namespace Go.Proofs.YtaonjmkfbfhanaaDoor.Bk
open Go.RowKit Go.Proofs.YtaonjmkfbfhanaaDoorW.PrintWords Go.Proofs.YtaonjmkfbfhanaaDoor.Own Go.Proofs.YtaonjmkfbfhanaaDoor.G Go.Proofs.YtaonjmkfbfhanaaDoor.Wk Go.Proofs.YtaonjmkfbfhanaaDoor.QBo
set_option linter.unusedVariables false
/-- A block that is read: its entries and its restart, in new memory. -/
def BlkAt (w0 W : World) (g : Nat) (es : List En) (rs : Nat) : Prop := ∃ A n c, W.heap[g]? = some (.cells #[.slice A n c, .int .i64 (rs : Int)] 98 (0, 0)) ∧ w0.heap.size ≤ g ∧ Kd.R kE 30 W w0.heap.size (fun k => k ≠ g) (.slice A n c) es
/-- What 'read' answers. -/
def ReadPost (w : World) (r : Option (List En × Nat)) (e : Ending) (w' : World) : Prop :=
  (match r with
  | none => e = .returned (.tuple #[.pointer none, .bool false])
  | some (es, rs) => ∃ g, e = .returned (.tuple #[.pointer (some ⟨g, 0, none⟩), .bool true]) ∧ BlkAt w w' g es rs) ∧ Below w.heap.size w w'
/-- One form for both answers of 'entry'. -/
def EntOk (R : Option (En × Nat)) (x : En) (k : Int) (ok : Bool) : Prop := match R with
  | none => ok = false
  | some (y, j) => y = x ∧ k = (j : Int) ∧ ok = true
theorem EntPost.form {w w' : World} {R : Option (En × Nat)} {e : Ending} (h : EntPost w R e w') : ∃ (x : En) (k : Int) (ok : Bool), e = .returned (.tuple #[ev x, .int .i64 k, .bool ok]) ∧ EntOk R x k ok ∧ Below w.heap.size w w' := by
  obtain ⟨h1, h2⟩ := h
  rcases R with _ | ⟨y, j⟩
  · obtain ⟨x, k, rfl⟩ := h1
    exact ⟨x, k, false, rfl, rfl, h2⟩
  · exact ⟨y, j, true, h1, ⟨rfl, rfl, rfl⟩, h2⟩
set_option maxHeartbeats 8000000 in
set_option maxRecDepth 100000 in
theorem read_calls {w : World} {A : Option Addr} {m c : Nat} {b : List Int} (h : Rd (Kd.int .u8) w A m c b) (hb : Bytes b) (hl : b.length ≤ 1073741824) :
    Calls Tryd.prog 39 #[.slice A m c] w (ReadPost w (readB b)) := by
  have hm := h.1
  subst hm
  have HR := Aside0.mk h
  have HB := Aside0.mk hb
  clear h hb
  by_cases c1 : b.length < 8
  · have d1 : decide ((b.length : Int) - 8 < 0) = true := decide_eq_true (by omega)
    have HE : Aside0 (readB b = none) := ⟨by unfold readB; rw [if_pos c1]⟩
    clear c1
    go_enter Tryd.func39, Tryd.ntmps39
    go_wp2_with fail
    go_ret2
    rw [HE.out]
    exact ⟨rfl, Below.refl _ _⟩
  have d1 : decide ((b.length : Int) - 8 < 0) = false := decide_eq_false (by omega)
  obtain ⟨n, hn⟩ : ∃ n, b.length - 8 = n := ⟨_, rfl⟩
  have eN : (b.length : Int) - 8 = (n : Int) := by omega
  obtain ⟨ct, hct⟩ : ∃ ct, wordL b n = ct := ⟨_, rfl⟩
  have hctr : ct < 4294967296 := by rw [← hct]; exact wordL_range HB.out n (by omega)
  have HD0 : Aside0 (readB b = if n / 4 < ct then none else rowsR (b.take (n - 4 * ct)) ((b.take n).drop (n - 4 * ct)) ct (b.length + 1) 0 [] 1) := ⟨by unfold readB; rw [if_neg c1, hn, hct]⟩
  obtain ⟨A', hfrom, hfr⟩ := Rd.from (P := Tryd.prog) (t := 22) (Kd.int .u8) Tryd.underlying22 infoU .i64 A b.length c n (by omega) HR.out.2.1
  have HW : Aside0 (∀ W : World, Below w.heap.size w W → Calls Tryd.prog 70 #[.slice A' (b.length - n) (c - n)] W fun e w' => e = .returned (.int .i64 (ct : Int)) ∧ Drawn0 W w') := ⟨fun W hW => by
    have h1 := (hfr w b HR.out).step hW
    have h2 := word_calls h1 (fun y hy => HB.out y (List.mem_of_mem_drop hy)) (by rw [List.length_drop]; omega)
    rw [wordL_drop, Nat.add_zero, hct] at h2
    exact h2⟩
  obtain ⟨d8, hd8⟩ : ∃ d8, b.length - n = d8 := ⟨_, rfl⟩
  rw [hd8] at hfrom HW
  have HN := Aside0.mk hn
  clear hfr hd8 hct
  obtain ⟨q, hq⟩ : ∃ q, n / 4 = q := ⟨_, rfl⟩
  have eQ : (n : Int) / 4 = (q : Int) := by omega
  rw [hq] at HD0
  by_cases c2 : q < ct
  · have d2 : decide (q < ct) = true := decide_eq_true c2
    have d2' : decide ((q : Int) < (ct : Int)) = true := decide_eq_true (by omega)
    have HE : Aside0 (readB b = none) := ⟨by rw [HD0.out, if_pos c2]⟩
    clear c2 HD0 hn c1 hq
    go_enter Tryd.func39, Tryd.ntmps39
    go_wp2_with fail
    refine (HW.out _ (by repeat (first | exact Below.refl _ _ | apply pw_below_drewN))).mono ?_
    rintro e W1 ⟨rfl, hD⟩
    have HB1 := Aside0.mk hD.below
    clear hD
    go_wp2_with fail
    go_ret2
    rw [HE.out]
    exact ⟨rfl, HB1.out⟩
  have d2 : decide (q < ct) = false := decide_eq_false c2
  have d2' : decide ((q : Int) < (ct : Int)) = false := decide_eq_false (by omega)
  rw [if_neg c2] at HD0
  obtain ⟨mm, hmm⟩ : ∃ mm, n - 4 * ct = mm := ⟨_, rfl⟩
  rw [hmm] at HD0
  have eM : (n : Int) - 4 * (ct : Int) = (mm : Int) := by omega
  have hmn : mm ≤ n := by omega
  have hPn : n - mm = 4 * ct := by omega
  obtain ⟨AD, hsD, hrD⟩ := to_room (P := Tryd.prog) (t := 22) (Kd.int .u8) Tryd.underlying22 infoU .i64 .i64 A b.length c mm (by omega) HR.out.2.1
  obtain ⟨AP, hsP, hrP⟩ := mid_room (P := Tryd.prog) (t := 22) (Kd.int .u8) Tryd.underlying22 infoU .i64 .i64 .i64 A b.length c mm n n hmn (Nat.le_refl _) (by omega) (by have := HR.out.2.1; omega) HR.out.2.1
  obtain ⟨D, hD⟩ : ∃ D, b.take mm = D := ⟨_, rfl⟩
  obtain ⟨Pl, hPl⟩ : ∃ Pl, (b.take n).drop mm = Pl := ⟨_, rfl⟩
  obtain ⟨p, hp⟩ : ∃ p, n - mm = p := ⟨_, rfl⟩
  have hRD := hrD w b HR.out
  have hRP := hrP w b HR.out
  rw [hD] at hRD HD0
  rw [hPl] at hRP HD0
  rw [hp] at hRP hsP hPn
  have RD := Aside0.mk hRD
  have RP := Aside0.mk hRP
  have BD : Aside0 (Bytes D) := ⟨fun y hy => HB.out y (List.mem_of_mem_take (hD ▸ hy))⟩
  have BP : Aside0 (Bytes Pl) := ⟨fun y hy => HB.out y (List.mem_of_mem_take (List.mem_of_mem_drop (hPl ▸ hy)))⟩
  have hDl := hRD.1
  have HPN := Aside0.mk hPn
  have HMN := Aside0.mk (show mm ≤ b.length by omega)
  clear hrD hrP hRD hRP hD hPl c1 c2 hn hq hmm hp hPn
  obtain ⟨r, hr⟩ : ∃ r, readB b = r := ⟨_, rfl⟩
  have HF : Aside0 (rowsR D Pl ct (b.length + 1) 0 [] 1 = r) := ⟨by rw [← HD0.out]; exact hr⟩
  rw [hr]
  clear HD0 hr
  go_enter Tryd.func39, Tryd.ntmps39
  go_wp2_with fail
  refine (HW.out _ (by repeat (first | exact Below.refl _ _ | apply pw_below_drewN))).mono ?_
  rintro e W1 ⟨rfl, hD⟩
  have HB1 := Aside0.mk hD.below
  clear hD
  go_wp2_with fail
  repeat (go_quiet (fail); try (go_wp2_with fail))
  obtain ⟨g, hg⟩ : ∃ g, g = W1.heap.size := ⟨_, rfl⟩
  have HGe : Aside0 (w.heap.size ≤ g) := ⟨by rw [hg]; exact HB1.out.size⟩
  have BK0 : Aside0 (((W1.drewN nq).alloc (.cells #[.slice none 0 0, .int .i64 1] 98)).heap[g]? = some (.cells #[.slice none 0 0, .int .i64 ((1 : Nat) : Int)] 98 (0, 0))) := ⟨by have := heap_alloc_new (W1.drewN nq) (.cells #[.slice none 0 0, .int .i64 1] 98); rw [hg]; simpa using this⟩
  have HB2 : Aside0 (Below w.heap.size w ((W1.drewN nq).alloc (.cells #[.slice none 0 0, .int .i64 1] 98))) := ⟨below_alloc (pw_below_drewN HB1.out nq) _⟩
  rw [← hg]
  clear hg HW HB1
  go_loopw [9] (fun v9 wr => ∃ (a rs f n1 c1 : Nat) (es : List En) (A1 : Option Addr), v9 = .int .i64 (a : Int) ∧ a ≤ mm ∧ rs ≤ a + 1 ∧ es.length = n1 ∧ n1 ≤ a ∧ Aside0 (rowsR D Pl ct f a es rs = r ∧ mm < f + a ∧ (lastK es).size ≤ a) ∧ Aside0 (Below w.heap.size w wr) ∧ Aside0 (wr.heap[g]? = some (.cells #[.slice A1 n1 c1, .int .i64 (rs : Int)] 98 (0, 0))) ∧ Aside0 (Kd.R kE 30 wr w.heap.size (fun k => k ≠ g) (.slice A1 n1 c1) es)) (fun v9 _ => mm - (intOf v9).toNat)
  case atStart => exact ⟨0, 1, b.length + 1, 0, 0, [], none, rfl, by omega, by omega, rfl, by omega, ⟨HF.out, by have := HMN.out; omega, Nat.le_refl 0⟩, HB2, BK0, ⟨Kd.R_nil _ _ _ _ _⟩⟩
  case round =>
    clear HB2 BK0 HF
    obtain ⟨a, rs, f, n1, c1, es, A1, rfl, ha, hrs, hn1, hna, I, B, BK, O⟩ := hrel
    have f0 := blk_frozen BK.out 0
    have f1 := blk_frozen BK.out 1
    have k0 : wr.cell? ⟨g, 0, none⟩ = some (.slice A1 n1 c1) := by rw [blk_cell BK.out]; rfl
    have k1 : wr.cell? ⟨g, 1, none⟩ = some (.int .i64 (rs : Int)) := by rw [blk_cell BK.out]; rfl
    obtain ⟨f', hf'⟩ : ∃ f', f = f' + 1 := ⟨f - 1, by have := I.out.2.1; omega⟩
    subst hf'
    by_cases hlt : a < mm
    · have e1 : decide (a < mm) = true := decide_eq_true hlt
      obtain ⟨wp, hwp⟩ : ∃ wp, wordL Pl 4 = wp := ⟨_, rfl⟩
      have HWP := Aside0.mk hwp
      clear hwp
      go_upto_region 11 with fail
      go_cut [73] (fun s73 wx => s73 = .bool (decide (1 < ct ∧ a = wp ∧ rs = 1 ∧ 0 < n1)) ∧ Aside0 (Below wr.heap.size wr wx))
      case first =>
        by_cases q1 : 1 < ct
        · have z1 : decide (1 < ct) = true := decide_eq_true q1
          have z1' : decide ((1 : Int) < (ct : Int)) = true := decide_eq_true (by omega)
          obtain ⟨A4, hs4, hr4⟩ := Rd.from (P := Tryd.prog) (t := 22) (Kd.int .u8) Tryd.underlying22 infoU .i64 AP p p 4 (by have := HPN.out; omega) (Nat.le_refl _)
          have HW : Aside0 (∀ W : World, Below wr.heap.size wr W → Calls Tryd.prog 70 #[.slice A4 (p - 4) (p - 4)] W fun e w' => e = .returned (.int .i64 (wp : Int)) ∧ Drawn0 W w') := ⟨fun W hW => by
            have h1 := (hr4 w Pl RP.out).step (below_step B.out hW)
            have h2 := word_calls h1 (fun y hy => BP.out y (List.mem_of_mem_drop hy)) (by rw [List.length_drop, RP.out.1]; have := HPN.out; omega)
            rw [wordL_drop, Nat.add_zero, HWP.out] at h2
            exact h2⟩
          obtain ⟨p4, hp4⟩ : ∃ p4, p - 4 = p4 := ⟨_, rfl⟩
          rw [hp4] at hs4 HW
          replace hs4 : ∀ W : World, (Instr.slice 22 (.slice AP p p) (some (.int .i64 4)) none none).run Tryd.prog W = .ok (.slice A4 p4 p4) W := hs4
          clear hr4 hp4
          have BKL := Aside0.mk (blk_lt BK.out)
          by_cases q2 : a = wp
          · have z2 : (a == wp) = true := by rw [beq_iff_eq]; exact q2
            have z2' : ((a : Int) == (wp : Int)) = true := by rw [beq_iff_eq]; omega
            by_cases q3 : rs = 1
            · have z3 : (rs == 1) = true := by rw [beq_iff_eq]; exact q3
              have z3' : ((rs : Int) == 1) = true := by rw [beq_iff_eq]; omega
              by_cases q4 : 0 < n1
              · have z4 : decide (0 < n1) = true := decide_eq_true q4
                have z4' : decide ((0 : Int) < (n1 : Int)) = true := decide_eq_true (by omega)
                have HV : Aside0 (decide (1 < ct ∧ a = wp ∧ rs = 1 ∧ 0 < n1) = true) := ⟨decide_eq_true ⟨q1, q2, q3, q4⟩⟩
                clear q1 q2 q3 q4
                go_wp2_with fail
                refine (HW.out _ (by repeat (first | exact Below.refl _ _ | apply pw_below_drewN))).mono ?_
                rintro e W1 ⟨rfl, hD⟩
                have BX := Aside0.mk (below_step (show Below wr.heap.size wr _ by repeat (first | exact Below.refl _ _ | apply pw_below_drewN)) hD.below)
                have BKX := Aside0.mk ((BX.out.block _ BKL.out).trans BK.out)
                have x0 : W1.cell? ⟨g, 0, none⟩ = some (.slice A1 n1 c1) := by rw [blk_cell BKX.out]; rfl
                have x1 : W1.cell? ⟨g, 1, none⟩ = some (.int .i64 (rs : Int)) := by rw [blk_cell BKX.out]; rfl
                clear hD k0 k1 f0 f1
                go_wp2_with fail
                go_meet
                case rel => exact ⟨by rw [HV.out], ⟨by repeat (first | exact BX.out | apply pw_below_drewN)⟩⟩
              · have z4 : decide (0 < n1) = false := decide_eq_false q4
                have z4' : decide ((0 : Int) < (n1 : Int)) = false := decide_eq_false (by omega)
                have HV : Aside0 (decide (1 < ct ∧ a = wp ∧ rs = 1 ∧ 0 < n1) = false) := ⟨decide_eq_false (fun h => q4 h.2.2.2)⟩
                clear q1 q2 q3 q4
                go_wp2_with fail
                refine (HW.out _ (by repeat (first | exact Below.refl _ _ | apply pw_below_drewN))).mono ?_
                rintro e W1 ⟨rfl, hD⟩
                have BX := Aside0.mk (below_step (show Below wr.heap.size wr _ by repeat (first | exact Below.refl _ _ | apply pw_below_drewN)) hD.below)
                have BKX := Aside0.mk ((BX.out.block _ BKL.out).trans BK.out)
                have x0 : W1.cell? ⟨g, 0, none⟩ = some (.slice A1 n1 c1) := by rw [blk_cell BKX.out]; rfl
                have x1 : W1.cell? ⟨g, 1, none⟩ = some (.int .i64 (rs : Int)) := by rw [blk_cell BKX.out]; rfl
                clear hD k0 k1 f0 f1
                go_wp2_with fail
                go_meet
                case rel => exact ⟨by rw [HV.out], ⟨by repeat (first | exact BX.out | apply pw_below_drewN)⟩⟩
            · have z3 : (rs == 1) = false := by rw [beq_eq_false_iff_ne]; exact q3
              have z3' : ((rs : Int) == 1) = false := by rw [beq_eq_false_iff_ne]; omega
              have HV : Aside0 (decide (1 < ct ∧ a = wp ∧ rs = 1 ∧ 0 < n1) = false) := ⟨decide_eq_false (fun h => q3 h.2.2.1)⟩
              clear q1 q2 q3
              go_wp2_with fail
              refine (HW.out _ (by repeat (first | exact Below.refl _ _ | apply pw_below_drewN))).mono ?_
              rintro e W1 ⟨rfl, hD⟩
              have BX := Aside0.mk (below_step (show Below wr.heap.size wr _ by repeat (first | exact Below.refl _ _ | apply pw_below_drewN)) hD.below)
              have BKX := Aside0.mk ((BX.out.block _ BKL.out).trans BK.out)
              have x0 : W1.cell? ⟨g, 0, none⟩ = some (.slice A1 n1 c1) := by rw [blk_cell BKX.out]; rfl
              have x1 : W1.cell? ⟨g, 1, none⟩ = some (.int .i64 (rs : Int)) := by rw [blk_cell BKX.out]; rfl
              clear hD k0 k1 f0 f1
              go_wp2_with fail
              go_meet
              case rel => exact ⟨by rw [HV.out], ⟨by repeat (first | exact BX.out | apply pw_below_drewN)⟩⟩
          · have z2 : (a == wp) = false := by rw [beq_eq_false_iff_ne]; exact q2
            have z2' : ((a : Int) == (wp : Int)) = false := by rw [beq_eq_false_iff_ne]; omega
            have HV : Aside0 (decide (1 < ct ∧ a = wp ∧ rs = 1 ∧ 0 < n1) = false) := ⟨decide_eq_false (fun h => q2 h.2.1)⟩
            clear q1 q2
            go_wp2_with fail
            refine (HW.out _ (by repeat (first | exact Below.refl _ _ | apply pw_below_drewN))).mono ?_
            rintro e W1 ⟨rfl, hD⟩
            have BX := Aside0.mk (below_step (show Below wr.heap.size wr _ by repeat (first | exact Below.refl _ _ | apply pw_below_drewN)) hD.below)
            have BKX := Aside0.mk ((BX.out.block _ BKL.out).trans BK.out)
            have x0 : W1.cell? ⟨g, 0, none⟩ = some (.slice A1 n1 c1) := by rw [blk_cell BKX.out]; rfl
            have x1 : W1.cell? ⟨g, 1, none⟩ = some (.int .i64 (rs : Int)) := by rw [blk_cell BKX.out]; rfl
            clear hD k0 k1 f0 f1
            go_wp2_with fail
            go_meet
            case rel => exact ⟨by rw [HV.out], ⟨by repeat (first | exact BX.out | apply pw_below_drewN)⟩⟩
        · have z1 : decide (1 < ct) = false := decide_eq_false q1
          have z1' : decide ((1 : Int) < (ct : Int)) = false := decide_eq_false (by omega)
          have HV : Aside0 (decide (1 < ct ∧ a = wp ∧ rs = 1 ∧ 0 < n1) = false) := ⟨decide_eq_false (fun h => q1 h.1)⟩
          clear q1
          go_wp2_with fail
          go_meet
          case rel => exact ⟨by rw [HV.out], ⟨by repeat (first | exact Below.refl _ _ | apply pw_below_drewN)⟩⟩
      case rest =>
        obtain ⟨rfl, BX⟩ := hcut
        obtain ⟨rs', hrs'⟩ : ∃ rs', restS Pl ct a es rs = rs' := ⟨_, rfl⟩
        have HRS := Aside0.mk hrs'
        clear hrs' f0 f1 k0 k1
        have Bc := Aside0.mk (below_step B.out BX.out)
        have BKc := Aside0.mk ((BX.out.block _ (blk_lt BK.out)).trans BK.out)
        have Oc := Aside0.mk (Kd.R_below O.out BX.out)
        have f0 := blk_frozen BKc.out 0
        have f1 := blk_frozen BKc.out 1
        have k0 : wc.cell? ⟨g, 0, none⟩ = some (.slice A1 n1 c1) := by rw [blk_cell BKc.out]; rfl
        have k1 : wc.cell? ⟨g, 1, none⟩ = some (.int .i64 (rs : Int)) := by rw [blk_cell BKc.out]; rfl
        obtain ⟨Bv, hBv⟩ : ∃ Bv, decide (1 < ct ∧ a = wp ∧ rs = 1 ∧ 0 < n1) = Bv := ⟨_, rfl⟩
        rw [hBv]
        have HBv := Aside0.mk hBv
        clear hBv B BK O BX
        go_upto_if 73 with fail
        go_cut [] (fun wx => Aside0 (Below w.heap.size w wx) ∧ Aside0 (wx.heap[g]? = some (.cells #[.slice A1 n1 c1, .int .i64 (rs' : Int)] 98 (0, 0))) ∧ Aside0 (Kd.R kE 30 wx w.heap.size (fun k => k ≠ g) (.slice A1 n1 c1) es))
        case first =>
          cases Bv
          · have HX : Aside0 (rs' = rs) := ⟨by rw [← HRS.out]; unfold restS; rw [HWP.out, hn1]; exact if_neg (of_decide_eq_false HBv.out)⟩
            go_wp2_with fail
            go_meet
            case rel => exact ⟨Bc, by rw [HX.out]; exact BKc, Oc⟩
          · have HX : Aside0 (rs' = n1) := ⟨by rw [← HRS.out]; unfold restS; rw [HWP.out, hn1]; exact if_pos (of_decide_eq_true HBv.out)⟩
            go_wp2_with fail
            go_meet
            case rel => exact ⟨⟨Bc.out.setCell (p := ⟨g, 1, none⟩) HGe.out _⟩, ⟨by rw [HX.out]; exact blk_put BKc.out 1 _ rfl⟩, ⟨Kd.R_far Oc.out (fun k hk => hk) _⟩⟩
        case rest =>
          obtain ⟨B, BK, O⟩ := hcut
          clear f0 f1 k0 k1 Bc BKc Oc
          have hrs2 : rs' ≤ a + 1 := by rw [← HRS.out]; unfold restS; split <;> omega
          have HS := Aside0.mk I.out.2.2
          have BG := Aside0.mk (blk_lt BK.out)
          have hRE : Aside0 (Rd kE wc A1 n1 c1 es) := ⟨Rd.of_own O.out⟩
          obtain ⟨lk, hlk⟩ : ∃ lk, lastK es = lk := ⟨_, rfl⟩
          have HK : Aside0 (∀ W : World, Below wc.heap.size wc W → Calls Tryd.prog 72 #[.pointer (some ⟨g, 0, none⟩)] W fun e w' => e = .returned (.string lk) ∧ Drawn0 W w') := ⟨fun W hW => by
            rw [← hlk]
            exact key_calls ((hW.block _ BG.out).trans BK.out) (hRE.out.step hW) (by omega)⟩
          obtain ⟨A5, hs5, hr5⟩ := mid_room (P := Tryd.prog) (t := 22) (Kd.int .u8) Tryd.underlying22 infoU .i64 .i64 .i64 AD mm mm a mm mm (by omega) (Nat.le_refl _) (Nat.le_refl _) (Nat.le_refl _) (Nat.le_refl _)
          have hr5' := hr5 w D RD.out
          rw [← hDl, List.take_length, hDl] at hr5'
          have R5 := Aside0.mk hr5'
          obtain ⟨dm, hdm⟩ : ∃ dm, mm - a = dm := ⟨_, rfl⟩
          rw [hdm] at hs5 R5
          obtain ⟨R, hR⟩ : ∃ R, entryL (D.drop a) lk = R := ⟨_, rfl⟩
          have HEn : Aside0 (∀ W : World, Below wc.heap.size wc W → Calls Tryd.prog 71 #[.slice A5 dm dm, .string lk] W (EntPost W R)) := ⟨fun W hW => by
            rw [← hR]
            exact entry_calls (R5.out.step (below_step B.out hW)) (fun y hy => BD.out y (List.mem_of_mem_drop hy)) (by rw [List.length_drop]; have := HMN.out; omega) (by have := HS.out; have := HMN.out; rw [← hlk]; omega)⟩
          have HRR := Aside0.mk hR
          have HLK := Aside0.mk hlk
          have HDM := Aside0.mk hdm
          clear hlk hr5 hr5' hR hdm
          go_upto_region 13 with fail
          go_cut [10, 11, 12] (fun s10 s11 s12 wx => ∃ (h : Nat) (x : En) (k : Int) (ok : Bool), s10 = .pointer (some ⟨h, 0, none⟩) ∧ s11 = .int .i64 k ∧ s12 = .bool ok ∧ Aside0 (EntOk R x k ok) ∧ Aside0 (wx.heap[h]? = some (.cells #[.string x.f0, .int .u64 x.f1, .bool x.f2, .string x.f3] 30 (0, 0))) ∧ Aside0 (Below wc.heap.size wc wx))
          case first =>
            go_region_with (first
              | (go_at_call 72; go_must (refine (HK.out _ (by repeat (first | exact BX2.out | exact Below.refl _ _ | apply pw_below_drewN | apply below_alloc | apply below_drew))).mono ?_); rintro e W2 ⟨rfl, hD⟩; (have BX2 := Aside0.mk (below_step (show Below wc.heap.size wc _ from (by repeat (first | exact BX2.out | exact Below.refl _ _ | apply pw_below_drewN | apply below_alloc | apply below_drew))) hD.below)); (try (have HA2 := Aside0.mk (show W2.heap[wc.heap.size]? = some (.cells #[.string (⟨#[]⟩ : ByteArray), .int .u64 0, .bool false, .string (⟨#[]⟩ : ByteArray)] 30 (0, 0)) from (hD.below.block _ (by simp)).trans (by first | exact heap_alloc_new (wc.drewN _) _ | exact heap_alloc_new wc.drew _ | exact heap_alloc_new wc _)))); clear hD)
              | (go_at_call 71; go_must (refine (HEn.out _ (by repeat (first | exact BX2.out | exact Below.refl _ _ | apply pw_below_drewN | apply below_alloc | apply below_drew))).mono ?_); rintro e W3 hE; obtain ⟨x, k, ok, rfl, hok, hD⟩ := EntPost.form hE; clear hE; (have HOK := Aside0.mk hok); clear hok; (have BX3 := Aside0.mk (below_step (show Below wc.heap.size wc _ from (by repeat (first | exact BX2.out | exact Below.refl _ _ | apply pw_below_drewN | apply below_alloc | apply below_drew))) hD)); (try ((first | (have HA3 := Aside0.mk (show W3.heap[wc.heap.size]? = some (.cells #[.string (⟨#[]⟩ : ByteArray), .int .u64 0, .bool false, .string (⟨#[]⟩ : ByteArray)] 30 (0, 0)) from (hD.block _ (blk_lt HA2.out)).trans HA2.out)) | (have HA3 := Aside0.mk (show W3.heap[W2.heap.size]? = some (.cells #[.string (⟨#[]⟩ : ByteArray), .int .u64 0, .bool false, .string (⟨#[]⟩ : ByteArray)] 30 (0, 0)) from (hD.block _ (by simp)).trans (by first | exact heap_alloc_new (W2.drewN _) _ | exact heap_alloc_new W2.drew _ | exact heap_alloc_new W2 _)))); (have hz0 := blk_frozen HA3.out 0); (have hz1 := blk_frozen HA3.out 1); (have hz2 := blk_frozen HA3.out 2); (have hz3 := blk_frozen HA3.out 3); (have hy0 : W3.cell? ⟨_, 0, none⟩ = some (.string (⟨#[]⟩ : ByteArray)) := (blk_cell HA3.out 0).trans rfl); (have hy1 : W3.cell? ⟨_, 1, none⟩ = some (.int .u64 0) := (blk_cell HA3.out 1).trans rfl); (have hy2 : W3.cell? ⟨_, 2, none⟩ = some (.bool false) := (blk_cell HA3.out 2).trans rfl); (have hy3 : W3.cell? ⟨_, 3, none⟩ = some (.string (⟨#[]⟩ : ByteArray)) := (blk_cell HA3.out 3).trans rfl))); clear hD; unfold ev))
            all_goals (try (go_wp2_with fail))
            all_goals (go_meet; case rel => exact ⟨_, x, k, ok, rfl, rfl, rfl, HOK, ⟨by first | exact heap_alloc_new W3 _ | (refine blk_put (cs := #[.string x.f0, .int .u64 x.f1, .bool x.f2, .string (⟨#[]⟩ : ByteArray)]) ?_ 3 _ rfl; refine blk_put (cs := #[.string x.f0, .int .u64 x.f1, .bool false, .string (⟨#[]⟩ : ByteArray)]) ?_ 2 _ rfl; refine blk_put (cs := #[.string x.f0, .int .u64 0, .bool false, .string (⟨#[]⟩ : ByteArray)]) ?_ 1 _ rfl; refine blk_put (cs := #[.string (⟨#[]⟩ : ByteArray), .int .u64 0, .bool false, .string (⟨#[]⟩ : ByteArray)]) ?_ 0 _ rfl; exact HA3.out)⟩, ⟨(by repeat (first | exact BX3.out | apply pw_below_drewN | apply below_alloc | apply below_drew | refine Below.setCell (p := ⟨_, _, none⟩) ?_ (by first | exact BX2.out.size | exact Nat.le_refl _) _))⟩⟩)
          case rest =>
            obtain ⟨h, x, k, ok, rfl, rfl, rfl, HOK, HH, BX⟩ := hcut
            rcases R with _ | ⟨y, j⟩
            · have hok : ok = false := HOK.out
              subst hok
              have HE : Aside0 (r = none) := ⟨by have := I.out.1; rw [rowsR_step, hDl, if_pos hlt, HLK.out, HRR.out] at this; exact this.symm⟩
              clear hlt
              go_wp2_with fail
              go_ret2
              rw [HE.out]
              exact ⟨rfl, below_step B.out BX.out⟩
            · obtain ⟨hy, hj, hok⟩ : y = x ∧ k = (j : Int) ∧ ok = true := HOK.out
              subst hy hj hok
              have hkp := entryL_pos HRR.out
              rw [List.length_drop, hDl] at hkp
              obtain ⟨hk1, hk2, hk3⟩ := hkp
              have hka : a + j ≤ mm := by omega
              have J : Aside0 (rowsR D Pl ct f' (a + j) (es ++ [y]) rs' = r ∧ mm < f' + (a + j) ∧ (lastK (es ++ [y])).size ≤ a + j) := ⟨by
                obtain ⟨i1, i2, i3⟩ := I.out
                rw [rowsR_step, hDl, if_pos hlt, HLK.out, HRR.out] at i1
                simp only [HRS.out] at i1
                refine ⟨i1, by omega, ?_⟩
                rw [lastK_snoc]
                rw [HLK.out] at i3
                omega⟩
              have BY := Aside0.mk (below_step B.out BX.out)
              have BKY := Aside0.mk ((BX.out.block _ BG.out).trans BK.out)
              have OY := Aside0.mk (Kd.R_below O.out BX.out)
              have f0 := blk_frozen BKY.out 0
              have f1 := blk_frozen BKY.out 1
              have k0 : wc.cell? ⟨g, 0, none⟩ = some (.slice A1 n1 c1) := by rw [blk_cell BKY.out]; rfl
              have y0 : wc.cell? ⟨h, 0, none⟩ = some (.string y.f0) := by rw [blk_cell HH.out]; rfl
              have y1 : wc.cell? ⟨h, 1, none⟩ = some (.int .u64 y.f1) := by rw [blk_cell HH.out]; rfl
              have y2 : wc.cell? ⟨h, 2, none⟩ = some (.bool y.f2) := by rw [blk_cell HH.out]; rfl
              have y3 : wc.cell? ⟨h, 3, none⟩ = some (.string y.f3) := by rw [blk_cell HH.out]; rfl
              have BGY := Aside0.mk (blk_lt BKY.out)
              have PL := Aside0.mk (show (es.length + 1) * 48 ≤ 140737488355328 by omega)
              have kA : (wc.alloc (.cells #[.string y.f0, .int .u64 y.f1, .bool y.f2, .string y.f3] 30)).cell? ⟨g, 0, none⟩ = some (.slice A1 n1 c1) := (blk_cell (blk_alloc BKY.out _) 0).trans rfl
              have kB : (wc.alloc (.cells #[.string y.f0, .int .u64 y.f1, .bool y.f2, .string y.f3] 30)).drew.cell? ⟨g, 0, none⟩ = some (.slice A1 n1 c1) := kA
              go_upto_region 16 with fail
              go_cut [] (fun wx => ∃ (A2 : Option Addr) (c2 : Nat), Aside0 (Below w.heap.size w wx) ∧ Aside0 (wx.heap[g]? = some (.cells #[.slice A2 (n1 + 1) c2, .int .i64 (rs' : Int)] 98 (0, 0))) ∧ Aside0 (Kd.R kE 30 wx w.heap.size (fun k => k ≠ g) (.slice A2 (n1 + 1) c2) (es ++ [y])))
              case first =>
                go_region_law (rw [show (wc.alloc (.cells #[.string y.f0, .int .u64 y.f1, .bool y.f2, .string y.f3] 30)).drew = wc.drew.alloc (.cells #[.string y.f0, .int .u64 y.f1, .bool y.f2, .string y.f3] 30) from rfl]; refine Kd.R_append_step kE (w0 := w) w.heap.size (by rfl) (.tmp 102) (.tmp 104) 25 30 (.agg #[(.string ⟨#[]⟩), (.int .u64 0), (.bool false), (.string ⟨#[]⟩)]) 48 rfl Tryd.underlying25 info30 rfl (by decide) (by omega) _ es y [.string y.f0, .int .u64 y.f1, .bool y.f2, .string y.f3] (fun k_ => k_ ≠ g) (fun _ => False) (by rfl) (by rfl) (k30_mkM _ _ _ y) (fun _ hk => hk.elim) (fun k_ hk => by intro hkg; subst hkg; exact absurd hk (Nat.not_le.mpr BGY.out)) (by (with_reducible repeat (first | apply Kd.R_alloc | apply Kd.R_drewN | apply Kd.R_drew)); exact OY.out) (by repeat (first | (with_reducible first | exact BY.out | apply below_alloc | apply pw_below_drewN | apply below_drew) | exact BY.out)) (below_size (by repeat (first | (with_reducible first | exact BY.out | apply below_alloc | apply pw_below_drewN | apply below_drew) | exact BY.out))) PL.out ?_; intro v1 W3 ho hb hg hat; obtain ⟨A2, n2, c2, rfl, hR2, hO2⟩ := Rd.of_R ho; (have O3 := Aside0.mk hO2); (have B3 := Aside0.mk hb); (have BK3 := Aside0.mk (blk_grown (g := g) (o := .cells #[.slice A1 n1 c1, .int .i64 (rs' : Int)] 98 (0, 0)) (by (with_reducible repeat (first | refine blk_drewN ?_ _ | refine blk_drew ?_ | refine blk_alloc ?_ _)); exact BKY.out) hg (Kd.R_away OY.out (fun _ hk => hk)))); (have N3 := Aside0.mk hR2.1); (have g0 := blk_frozen BK3.out 0); (have j0 : W3.cell? ⟨g, 0, none⟩ = some (.slice A1 n1 c1) := by rw [blk_cell BK3.out]; rfl); clear ho hb hg hat hR2 hO2)
                all_goals (try (go_wp2_with fail))
                all_goals (go_meet; case rel => (have hn2 : n2 = n1 + 1 := by have := N3.out; simp only [List.length_append, List.length_cons, List.length_nil] at this; omega); subst hn2; exact ⟨A2, c2, ⟨B3.out.setCell (p := ⟨g, 0, none⟩) HGe.out _⟩, ⟨blk_put BK3.out 0 _ rfl⟩, ⟨Kd.R_far O3.out (fun _ hk => hk) _⟩⟩)
              case rest =>
                obtain ⟨A2, c2, BZ, BKZ, OZ⟩ := hcut
                clear f0 f1 k0 y0 y1 y2 y3 kA kB
                go_wp2_with fail
                go_roundw
                case rel => exact ⟨a + j, rs', f', n1 + 1, c2, es ++ [y], A2, by first | rfl | go_num, by omega, by omega, by simp [hn1], by omega, J, BZ, BKZ, OZ⟩
                case measure => simp [intOf]; omega
    · have e1 : decide (a < mm) = false := decide_eq_false hlt
      have HE : Aside0 (r = some (es, if ct ≤ 1 then max es.length 1 else rs)) := ⟨by have := I.out.1; rw [rowsR_step, hDl, if_neg hlt] at this; exact this.symm⟩
      by_cases h1 : ct ≤ 1
      · have e2 : decide (ct ≤ 1) = true := decide_eq_true h1
        have e2' : decide ((ct : Int) ≤ 1) = true := decide_eq_true (by omega)
        rw [if_pos h1] at HE
        clear hlt h1
        by_cases hz : 1 ≤ n1
        · have HMX : Aside0 (max es.length 1 = n1) := ⟨by omega⟩
          have z1 : decide (n1 < 1) = false := decide_eq_false (by omega)
          have z2 : decide ((n1 : Int) < 1) = false := decide_eq_false (by omega)
          go_wp2_with fail
          go_ret2
          rw [HE.out, HMX.out]
          exact ⟨⟨g, rfl, A1, n1, c1, blk_put BK.out 1 _ rfl, HGe.out, Kd.R_far O.out (fun k hk => hk) _⟩, B.out.setCell (p := ⟨g, 1, none⟩) HGe.out _⟩
        · have HMX : Aside0 (max es.length 1 = 1) := ⟨by omega⟩
          have hn0 : n1 = 0 := by omega
          subst hn0
          go_wp2_with fail
          go_ret2
          rw [HE.out, HMX.out]
          exact ⟨⟨g, rfl, A1, 0, c1, blk_put BK.out 1 _ rfl, HGe.out, Kd.R_far O.out (fun k hk => hk) _⟩, B.out.setCell (p := ⟨g, 1, none⟩) HGe.out _⟩
      · have e2 : decide (ct ≤ 1) = false := decide_eq_false h1
        have e2' : decide ((ct : Int) ≤ 1) = false := decide_eq_false (by omega)
        rw [if_neg h1] at HE
        clear hlt h1
        go_wp2_with fail
        go_ret2
        rw [HE.out]
        exact ⟨⟨g, rfl, A1, n1, c1, BK.out, HGe.out, O.out⟩, B.out⟩
end Go.Proofs.YtaonjmkfbfhanaaDoor.Bk
/- block.Open (this claim's own lemmas). -/
namespace Go.Proofs.YtaonjmkfbfhanaaDoor.Bk
open Go.RowKit Go.Proofs.YtaonjmkfbfhanaaDoorW.PrintWords Go.Proofs.YtaonjmkfbfhanaaDoor.Own Go.Proofs.YtaonjmkfbfhanaaDoor.G Go.Proofs.YtaonjmkfbfhanaaDoor.Wk Go.Proofs.YtaonjmkfbfhanaaDoor.QBo
set_option linter.unusedVariables false
/-- What 'Open' answers. -/
def OpenPost (w : World) (r : Option (List En × Nat)) (e : Ending) (w' : World) : Prop :=
  (match r with
  | none => e = .returned (.tuple #[.pointer none, .int .i64 91])
  | some (es, rs) => ∃ g, e = .returned (.tuple #[.pointer (some ⟨g, 0, none⟩), .int .i64 0]) ∧ BlkAt w w' g es rs) ∧ Below w.heap.size w w'
/-- An entry that was read: its number is one. -/
theorem entryL_enW {l : List Int} {s : ByteArray} {x : En} {k : Nat} (hb : Bytes l) (h : entryL l s = some (x, k)) : EnW x := by
  have key : ∀ k (a : Nat) (acc : List Nat) ns b, (∀ y ∈ acc, y < 18446744073709551616) → numsR k l a acc = some (ns, b) → ∀ y ∈ ns, y < 18446744073709551616 := by
    intro k
    induction k with
    | zero =>
      intro a acc ns b ha h
      simp only [numsR, Option.some.injEq, Prod.mk.injEq] at h
      obtain ⟨rfl, _⟩ := h
      exact ha
    | succ k ih =>
      intro a acc ns b ha h
      rw [numsR_step] at h
      split at h
      · cases h
      · refine ih _ _ _ _ (fun y hy => ?_) h
        rcases List.mem_append.1 hy with hy | hy
        · exact ha y hy
        · rw [List.mem_singleton.1 hy]
          exact (uintN_spec (l.drop a) (fun z hz => hb z (List.mem_of_mem_drop hz))).1
  unfold entryL at h
  split at h
  · cases h
  · rename_i ns a hn
    have hall := key 3 0 [] ns a (fun y hy => by cases hy) hn
    have h2 : ns.getD 2 0 < 18446744073709551616 := by
      rw [List.getD_eq_getElem?_getD]
      cases hq : ns[2]? with
      | none => simp
      | some y => exact hall y (List.mem_of_getElem? hq)
    simp only at h
    split at h
    · cases h
    · split at h
      · simp only [Option.some.injEq, Prod.mk.injEq] at h
        obtain ⟨rfl, _⟩ := h
        exact ⟨by simp only; omega, by simp only; omega⟩
      · split at h
        · cases h
        · simp only [Option.some.injEq, Prod.mk.injEq] at h
          obtain ⟨rfl, _⟩ := h
          exact ⟨by simp only; omega, by simp only; omega⟩
theorem rowsR_all (D Pl : List Int) (hD : Bytes D) (ct : Nat) : ∀ (f a : Nat) (es : List En) (rs : Nat) (L : List En) (R : Nat), rowsR D Pl ct f a es rs = some (L, R) → a ≤ D.length → es.length ≤ a → (∀ e ∈ es, EnW e) → L.length ≤ D.length ∧ ∀ e ∈ L, EnW e := by
  intro f
  induction f with
  | zero => intro a es rs L R h; simp [rowsR] at h
  | succ f ih =>
    intro a es rs L R h h1 h2 h3
    rw [rowsR_step] at h
    split at h
    · split at h
      · cases h
      · rename_i x k hx
        have hp := entryL_pos hx
        rw [List.length_drop] at hp
        have hw := entryL_enW (fun y hy => hD y (List.mem_of_mem_drop hy)) hx
        refine ih _ _ _ _ _ h (by omega) (by rw [List.length_append, List.length_singleton]; omega) (fun e he => ?_)
        rcases List.mem_append.1 he with he | he
        · exact h3 e he
        · rw [List.mem_singleton.1 he]; exact hw
    · simp only [Option.some.injEq, Prod.mk.injEq] at h
      obtain ⟨rfl, _⟩ := h
      exact ⟨by omega, h3⟩
theorem readB_all {b : List Int} (hb : Bytes b) {L : List En} {R : Nat} (h : readB b = some (L, R)) : L.length ≤ b.length ∧ ∀ e ∈ L, EnW e := by
  unfold readB at h
  split at h
  · cases h
  · split at h
    · cases h
    · have := rowsR_all _ _ (fun y hy => hb y (List.mem_of_mem_take hy)) _ _ _ _ _ _ _ h (Nat.zero_le _) (Nat.zero_le _) (fun e he => by cases he)
      exact ⟨by have h2 := this.1; rw [List.length_take] at h2; omega, this.2⟩
theorem BlkAt.step {w W W' : World} {g : Nat} {es : List En} {rs : Nat} (h : BlkAt w W g es rs) (hb : Below W.heap.size W W') : BlkAt w W' g es rs := by
  obtain ⟨A, n, c, h1, h2, h3⟩ := h
  exact ⟨A, n, c, (hb.block _ (blk_lt h1)).trans h1, h2, Kd.R_below h3 hb⟩
def finB (b : List Int) (es : List En) (rs : Nat) (q : Option Mk) : Option (List En × Nat) := match q with
  | none => none
  | some m => if bytesM m = b then some (es, rs) else none
theorem openB_fin {b : List Int} {es : List En} {rs : Nat} (h : readB b = some (es, rs)) : openB b = finB b es rs (addsM (newM (rs : Int)) es) := by
  unfold openB finB
  rw [h]
  rfl
theorem equal_calls {w : World} {A1 A2 : Option Addr} {n1 c1 n2 c2 : Nat} {l1 l2 : List Int} (h1 : Rd (Kd.int .u8) w A1 n1 c1 l1) (h2 : Rd (Kd.int .u8) w A2 n2 c2 l2) (b1 : Bytes l1) (b2 : Bytes l2) :
    Calls Tryd.prog 42 #[.slice A1 n1 c1, .slice A2 n2 c2] w (Says w (decide (l1 = l2))) := by
  obtain ⟨rfl, a2, a3⟩ := h1
  obtain ⟨rfl, d2, d3⟩ := h2
  refine (bytes_Equal.calls A1 c1 l1 A2 c2 l2 _ w a3 a2 d3 d2 ?_).mono fun _ _ h => Says.of h
  unfold bytes_Equal.f
  congr 1
  rw [Bool.eq_iff_iff, beq_iff_eq, decide_eq_true_eq]
  constructor
  · intro h
    have h' : strOfNums l1 = strOfNums l2 := by
      rw [ByteArray.toList_eq, ByteArray.toList_eq] at h
      exact ByteArray.ext (Array.ext' h)
    rw [← bytes_strOf b1, ← bytes_strOf b2, h']
  · intro h; rw [h]
theorem bytesM_bytes {m : Mk} (hb : Bytes m.data) (hp : ∀ p ∈ m.places, p < 4294967296) (hl : m.places.length < 4294967296) : Bytes (bytesM m) := by
  have h1 : Bytes (bodyM m) := bytes_app (bytes_app hb (flat4_bytes hp)) (bytes_four ⟨by omega, by omega⟩)
  exact bytes_app h1 (bytes_four (sumF_range h1))
set_option maxHeartbeats 8000000 in
set_option maxRecDepth 100000 in
theorem open_calls {w : World} {A : Option Addr} {n c : Nat} {b : List Int} (h : Rd (Kd.int .u8) w A n c b) (hb : Bytes b) (hl : b.length ≤ 1048576) (hT : GT w) :
    Calls Tryd.prog 16 #[.slice A n c] w (OpenPost w (openB b)) := by
  have HR := Aside0.mk h
  have HB := Aside0.mk hb
  have HT := Aside0.mk hT
  have HRd := Aside0.mk (read_calls h hb (by omega))
  obtain ⟨r, hr⟩ : ∃ r, readB b = r := ⟨_, rfl⟩
  rw [hr] at HRd
  clear h hb hT
  cases r with
  | none =>
    have HE : Aside0 (openB b = none) := ⟨by unfold openB; rw [hr]⟩
    clear hr
    go_enter Tryd.func16, Tryd.ntmps16
    go_wp2_with fail
    refine HRd.out.mono ?_
    rintro en W1 ⟨he, hb1⟩
    have he' : en = .returned (.tuple #[.pointer none, .bool false]) := he
    subst he'
    have HB1 := Aside0.mk hb1
    clear hb1 he
    go_wp2_with fail
    go_ret2
    rw [HE.out]
    exact ⟨rfl, HB1.out⟩
  | some p =>
    obtain ⟨es, rs⟩ := p
    have hrs := read_rs hr
    have hall := readB_all HB.out hr
    obtain ⟨q, hq⟩ : ∃ q, addsM (newM (rs : Int)) es = q := ⟨_, rfl⟩
    have HE : Aside0 (openB b = finB b es rs q) := ⟨by rw [openB_fin hr, hq]⟩
    have HEW := Aside0.mk hall.2
    have hel := hall.1
    have HQ := Aside0.mk hq
    clear hr hq hall
    go_enter Tryd.func16, Tryd.ntmps16
    go_wp2_with fail
    refine HRd.out.mono ?_
    rintro en W1 ⟨⟨gk, he, A1, n1, c1, hk1, hk2, hk3⟩, hb1⟩
    subst he
    have HRk := Aside0.mk (Kd.R_reads' hk3)
    have hn1 : es.length = n1 := by obtain ⟨A', q', e'⟩ := Kd.R_slice hk3; injection e' with _ e2 _; exact e2.symm
    have HK1 := Aside0.mk hk1
    have HBlk : Aside0 (BlkAt w W1 gk es rs) := ⟨⟨A1, n1, c1, hk1, hk2, hk3⟩⟩
    have HB1 := Aside0.mk hb1
    have kc0 : W1.cell? ⟨gk, 0, none⟩ = some (.slice A1 n1 c1) := by rw [blk_cell hk1]; rfl
    have kc1 : W1.cell? ⟨gk, 1, none⟩ = some (.int .i64 (rs : Int)) := by rw [blk_cell hk1]; rfl
    clear hb1 hk1 hk2 hk3
    go_wp2_with fail
    refine (new_calls (rs : Int) W1).mono ?_
    rintro en W2 ⟨v1, v2, rfl, hM2, hb2⟩
    obtain ⟨gm, hgm⟩ : ∃ gm, W1.heap.size = gm := ⟨_, rfl⟩
    have HGM := Aside0.mk hgm
    have HM2 : Aside0 (MkAt W2 gm gm (newM (rs : Int)) v1 v2) := ⟨by rw [← hgm]; exact hM2⟩
    have HB2 : Aside0 (Below gm W1 W2) := ⟨by rw [← hgm]; exact hb2⟩
    have kc2 : W2.cell? ⟨gk, 0, none⟩ = some (.slice A1 n1 c1) := (hb2.cell (p := ⟨gk, 0, none⟩) (blk_lt HK1.out)).trans kc0
    rw [hgm]
    have HC1 : Aside0 (Kd.C kE W1 A1 n1 es) := ⟨by have z := HRk.out.2.2; rwa [hn1] at z⟩
    clear hM2 hb2 kc0 kc1 hgm
    go_wp2_with fail
    go_loopw [26] (fun s26 wr => ∃ (k : Nat) (mm : Mk), s26 = .int .i64 (k : Int) ∧ k ≤ n1 ∧ Aside0 (GoodM (rs : Int) mm k) ∧ Aside0 (addsM mm (es.drop k) = q) ∧ Aside0 (∃ v1 v2, MkAt wr gm gm mm v1 v2) ∧ Aside0 (Below gm W1 wr)) (fun s26 _ => n1 - (intOf s26).toNat)
    case atStart => exact ⟨0, newM (rs : Int), rfl, Nat.zero_le _, ⟨goodM_new _⟩, HQ, ⟨_, _, HM2.out⟩, HB2⟩
    case round =>
      clear HM2 HB2 kc2
      obtain ⟨k, mm, rfl, hk, HGd, HQ, HMm, HBr⟩ := hrel
      have hBW : Below W1.heap.size W1 wr := by rw [HGM.out]; exact HBr.out
      by_cases hlt : k < n1
      · obtain ⟨ad, ea, x0, x1, x2, x3⟩ := at_T30 (Kd.C_below HC1.out hBW) (k : Int) (by omega) (by omega)
        subst ea
        obtain ⟨e, he⟩ : ∃ e, rd_T30 es (k : Int) = e := ⟨_, rfl⟩
        rw [he, Int.toNat_natCast] at x0 x1 x2 x3
        have hek : es[k]'(by omega) = e := by rw [← he]; simp [rd_T30, List.getD_eq_getElem?_getD, hn1, hlt]
        have HEe : Aside0 (EnW e) := ⟨by rw [← hek]; exact HEW.out _ (List.getElem_mem _)⟩
        have HQ2 : Aside0 (addsM mm (e :: es.drop (k + 1)) = q) := ⟨by rw [← hek, ← List.drop_eq_getElem_cons]; exact HQ.out⟩
        obtain ⟨v1, v2, hMm⟩ := HMm.out
        have HM := Aside0.mk hMm
        clear he hek hMm hBW HQ
        have HBA : Aside0 (Below wr.heap.size wr (wr.alloc (.cells #[.string e.f0, .int .u64 e.f1, .bool e.f2, .string e.f3] 30))) := ⟨below_alloc (Below.refl _ _) _⟩
        have hgd := HGd.out.data
        have hgp := HGd.out.places
        have hgn := HGd.out.n
        have hgr := HGd.out.rs
        have hrl : rsOf (rs : Int) = rs := rsOf_nat hrs.1
        have HAd := Aside0.mk (add_calls (HM.out.below HBA.out) HEe.out (by omega) (by omega) (by omega) (by omega) (by omega) HGd.out.last)
        obtain ⟨cd, hcd⟩ : ∃ cd, (addM mm e).1 = cd := ⟨_, rfl⟩
        rw [hcd] at HAd
        have HCd := Aside0.mk hcd
        clear hcd hgd hgp hgn hgr hrl
        by_cases h0 : cd = 0
        · have d0 : (cd != 0) = false := by rw [h0]; rfl
          have HGd2 : Aside0 (GoodM (rs : Int) (addM mm e).2 (k + 1)) := ⟨goodM_step HGd.out (by rw [HCd.out, h0]) HEe.out⟩
          have HQ3 : Aside0 (addsM (addM mm e).2 (es.drop (k + 1)) = q) := ⟨by have z := HQ2.out; unfold addsM at z; rwa [if_pos (by rw [HCd.out, h0])] at z⟩
          clear h0
          go_wp2_with fail
          refine HAd.out.mono ?_
          rintro en W3 ⟨rfl, hS⟩
          obtain ⟨v1', v2', hM3, hB3, -, -⟩ := hS
          have HM3 := Aside0.mk hM3
          have HB3 := Aside0.mk ((HBr.out.trans (HBA.out.mono (by have z := HBr.out.size; have z2 := HGM.out; omega))).trans hB3)
          clear hM3 hB3
          go_wp2_with fail
          go_roundw
          case rel => exact ⟨k + 1, _, by go_num, by omega, HGd2, HQ3, ⟨v1', v2', HM3.out⟩, HB3⟩
          case measure => simp [intOf]; omega
        · have d0 : (cd != 0) = true := by rw [bne_iff_ne]; exact h0
          have HN : Aside0 (openB b = none) := ⟨by
            have z := HQ2.out
            unfold addsM at z
            rw [if_neg (by rw [HCd.out]; exact h0)] at z
            rw [HE.out, ← z]
            rfl⟩
          clear h0
          go_wp2_with fail
          refine HAd.out.mono ?_
          rintro en W3 ⟨rfl, hS⟩
          have HB3 := Aside0.mk ((HBr.out.trans (HBA.out.mono (by have z := HBr.out.size; have z2 := HGM.out; omega))).trans hS.bel)
          clear hS
          go_wp2_with fail
          go_ret2
          rw [HN.out]
          exact ⟨rfl, below_step HB1.out (by rw [HGM.out]; exact HB3.out)⟩
      · obtain rfl : k = n1 := by omega
        have HF : Aside0 (openB b = if bytesM mm = b then some (es, rs) else none) := ⟨by
          have z := HQ.out
          rw [List.drop_of_length_le (by omega)] at z
          have z2 : some mm = q := z
          rw [HE.out, ← z2]
          rfl⟩
        have hgd := HGd.out.data
        have hgp := HGd.out.places
        have HSm : Aside0 (∀ p ∈ mm.places, p < 4294967296) := ⟨fun p hp => by have z := HGd.out.small p hp; omega⟩
        obtain ⟨v1, v2, hMm⟩ := HMm.out
        have HTr := Aside0.mk (HT.out.below (below_step HB1.out hBW))
        have HBy := Aside0.mk (bytes_calls hMm (by omega) (by omega) HGd.out.bytes HSm.out HTr.out)
        have HMB : Aside0 (Bytes (bytesM mm)) := ⟨bytesM_bytes HGd.out.bytes HSm.out (by omega)⟩
        have HBW := Aside0.mk hBW
        clear hMm hgd hgp hBW hlt
        go_wp2_with fail
        refine HBy.out.mono ?_
        rintro en W3 ⟨A3, n3, c3, l3, rfl, hl3, hd3, -, hb3⟩
        subst hl3
        have HD3 := Aside0.mk hd3
        have HB3 := Aside0.mk (below_step HBW.out hb3)
        clear hd3 hb3
        go_wp2_with fail
        refine (equal_calls HD3.out (HR.out.step (below_step HB1.out HB3.out)) HMB.out HB.out).mono ?_
        rintro en W4 ⟨rfl, hb4⟩
        have HB4 := Aside0.mk (below_step HB3.out hb4)
        clear hb4
        by_cases heq : bytesM mm = b
        · have d0 : decide (bytesM mm = b) = true := decide_eq_true heq
          rw [if_pos heq] at HF
          clear heq
          rw [d0]
          go_wp2_with fail
          go_ret2
          rw [HF.out]
          exact ⟨⟨gk, rfl, HBlk.out.step HB4.out⟩, below_step HB1.out HB4.out⟩
        · have d0 : decide (bytesM mm = b) = false := decide_eq_false heq
          rw [if_neg heq] at HF
          clear heq
          rw [d0]
          go_wp2_with fail
          go_ret2
          rw [HF.out]
          exact ⟨rfl, below_step HB1.out HB4.out⟩
end Go.Proofs.YtaonjmkfbfhanaaDoor.Bk
/- Block.Seek (this claim's own lemmas). -/
namespace Go.Proofs.YtaonjmkfbfhanaaDoor.Bk
open Go.RowKit Go.Proofs.YtaonjmkfbfhanaaDoorW.PrintWords Go.Proofs.YtaonjmkfbfhanaaDoor.Own Go.Proofs.YtaonjmkfbfhanaaDoor.G Go.Proofs.YtaonjmkfbfhanaaDoor.Wk Go.Proofs.YtaonjmkfbfhanaaDoor.QBo
set_option linter.unusedVariables false
def ltK (a b : ByteArray) : Bool := Op.bytesLess a.toList b.toList
/-- The place at which Seek comes to rest. -/
def seekF (es : List En) (rs : Nat) (s : ByteArray) : Nat → Nat → Option Nat
  | 0, _ => none
  | f + 1, a => if es.length ≤ a then none else if ltK (rd_T30 es (a : Int)).f0 s = false then some a
    else if a + rs < es.length ∧ ltK (rd_T30 es ((a + rs : Nat) : Int)).f0 s = true then seekF es rs s f (a + rs) else seekF es rs s f (a + 1)
def SeekPost (w : World) (es : List En) (q : Option Nat) (e : Ending) (w' : World) : Prop :=
  (match q with
  | none => e = .returned (.tuple #[.agg #[.string ⟨#[]⟩, .int .u64 0, .bool false, .string ⟨#[]⟩], .bool false])
  | some a => a < es.length ∧ e = .returned (.tuple #[.agg #[.string (rd_T30 es (a : Int)).f0, .int .u64 (rd_T30 es (a : Int)).f1, .bool (rd_T30 es (a : Int)).f2, .string (rd_T30 es (a : Int)).f3], .bool true])) ∧ Below w.heap.size w w'
set_option maxHeartbeats 4000000 in
set_option maxRecDepth 100000 in
theorem seek_calls {w : World} {gk n1 c1 rs : Nat} {A : Option Addr} {es : List En} (s : ByteArray) (hr : 1 ≤ rs) (hr2 : rs ≤ 1073741824) (hl : n1 ≤ 1073741824) (hk0 : w.cell? ⟨gk, 0, none⟩ = some (.slice A n1 c1)) (hk1 : w.cell? ⟨gk, 1, none⟩ = some (.int .i64 (rs : Int))) (hC : Kd.C kE w A n1 es) :
    Calls Tryd.prog 22 #[.pointer (some ⟨gk, 0, none⟩), .string s] w (SeekPost w es (seekF es rs s (es.length + 1) 0)) := by
  have HC := Aside0.mk hC
  have hn : es.length = n1 := hC.1
  clear hC
  go_enter Tryd.func22, Tryd.ntmps22
  go_wp2_with fail
  go_step3
  go_wp2_with fail
  go_step3
  go_wp2_with fail
  obtain ⟨w1, hw1⟩ : ∃ w1, w.alloc (.cells #[.string ⟨#[]⟩, .int .u64 0, .bool false, .string ⟨#[]⟩] 30) = w1 := ⟨_, rfl⟩
  have HB0 : Aside0 (Below w.heap.size w w1) := ⟨by rw [← hw1]; exact below_alloc (Below.refl _ _) _⟩
  have HX0 : Aside0 (w1.heap[w.heap.size]? = some (.cells #[.string ⟨#[]⟩, .int .u64 0, .bool false, .string ⟨#[]⟩] 30 (0, 0))) := ⟨by rw [← hw1]; exact heap_alloc_new w _⟩
  have HK0 : Aside0 (w1.cell? ⟨gk, 0, none⟩ = some (.slice A n1 c1)) := ⟨pw_cell_below HB0.out hk0⟩
  have HK1 : Aside0 (w1.cell? ⟨gk, 1, none⟩ = some (.int .i64 (rs : Int))) := ⟨pw_cell_below HB0.out hk1⟩
  have HC1 := Aside0.mk (Kd.C_below HC.out HB0.out)
  obtain ⟨gx, hh⟩ : ∃ gx, w.heap.size = gx := ⟨_, rfl⟩
  have HH := Aside0.mk hh
  rw [hw1]
  rw [hh] at HX0 ⊢
  clear hw1 hh hk0 hk1
  go_loopw [6] (fun s6 wr => ∃ (k f : Nat), s6 = .int .i64 (k : Int) ∧ k ≤ n1 ∧ n1 + 1 ≤ k + f ∧ Aside0 (seekF es rs s (es.length + 1) 0 = seekF es rs s f k) ∧ Aside0 (Below w1.heap.size w1 wr)) (fun s6 _ => n1 - (intOf s6).toNat)
  case atStart => exact ⟨0, es.length + 1, rfl, Nat.zero_le _, by omega, ⟨rfl⟩, ⟨Below.refl _ _⟩⟩
  case round =>
    obtain ⟨k, f, rfl, hk, hf, HQ, HB⟩ := hrel
    obtain ⟨f, rfl⟩ : ∃ f', f = f' + 1 := ⟨f - 1, by omega⟩
    have k0 : wr.cell? ⟨gk, 0, none⟩ = some (.slice A n1 c1) := pw_cell_below HB.out HK0.out
    have k1 : wr.cell? ⟨gk, 1, none⟩ = some (.int .i64 (rs : Int)) := pw_cell_below HB.out HK1.out
    have HXr : Aside0 (wr.heap[gx]? = some (.cells #[.string ⟨#[]⟩, .int .u64 0, .bool false, .string ⟨#[]⟩] 30 (0, 0))) := ⟨(HB.out.block _ (blk_lt HX0.out)).trans HX0.out⟩
    have b0 := blk_frozen HXr.out 0
    have b1 := blk_frozen HXr.out 1
    have b2 := blk_frozen HXr.out 2
    have b3 := blk_frozen HXr.out 3
    have y0 : wr.cell? ⟨gx, 0, none⟩ = some (.string ⟨#[]⟩) := by rw [blk_cell HXr.out]; rfl
    have y1 : wr.cell? ⟨gx, 1, none⟩ = some (.int .u64 0) := by rw [blk_cell HXr.out]; rfl
    have y2 : wr.cell? ⟨gx, 2, none⟩ = some (.bool false) := by rw [blk_cell HXr.out]; rfl
    have y3 : wr.cell? ⟨gx, 3, none⟩ = some (.string ⟨#[]⟩) := by rw [blk_cell HXr.out]; rfl
    have HHx : Aside0 (w.heap.size ≤ gx) := ⟨Nat.le_of_eq HH.out⟩
    by_cases hlt : k < n1
    · have d0 : decide ((n1 : Int) ≤ (k : Int)) = false := decide_eq_false (by omega)
      have d0' : decide (n1 ≤ k) = false := decide_eq_false (by omega)
      obtain ⟨ad, ea, x0, x1, x2, x3⟩ := at_T30 (Kd.C_below HC1.out HB.out) (k : Int) (by omega) (by omega)
      obtain ⟨e, he⟩ : ∃ e, rd_T30 es (k : Int) = e := ⟨_, rfl⟩
      rw [he, Int.toNat_natCast] at x0 x1 x2 x3
      subst ea
      have HEk := Aside0.mk he
      clear he
      cases hb : Op.bytesLess e.f0.toList s.toList with
      | false =>
        have HE : Aside0 (seekF es rs s (es.length + 1) 0 = some k) := ⟨by rw [HQ.out]; unfold seekF; rw [if_neg (by omega), HEk.out, if_pos (show ltK e.f0 s = false from hb)]⟩
        go_wp2_with fail
        refine bodyPost_ret (results_ct rfl _ _ gx 30 #[.string e.f0, .int .u64 e.f1, .bool e.f2, .string e.f3] (0, 0) _ rfl (by refine blk_put (cs := #[.string e.f0, .int .u64 e.f1, .bool e.f2, .string (⟨#[]⟩ : ByteArray)]) ?_ 3 _ rfl; refine blk_put (cs := #[.string e.f0, .int .u64 e.f1, .bool false, .string (⟨#[]⟩ : ByteArray)]) ?_ 2 _ rfl; refine blk_put (cs := #[.string e.f0, .int .u64 0, .bool false, .string (⟨#[]⟩ : ByteArray)]) ?_ 1 _ rfl; refine blk_put (cs := #[.string (⟨#[]⟩ : ByteArray), .int .u64 0, .bool false, .string (⟨#[]⟩ : ByteArray)]) ?_ 0 _ rfl; exact HXr.out) Tryd.underlying30 rfl (by kernel_rfl)) rfl ?_
        rw [HE.out]
        exact ⟨⟨by omega, by rw [HEk.out]; rfl⟩, ((((below_step HB0.out HB.out).setCell (p := ⟨gx, 0, none⟩) HHx.out _).setCell (p := ⟨gx, 1, none⟩) HHx.out _).setCell (p := ⟨gx, 2, none⟩) HHx.out _).setCell (p := ⟨gx, 3, none⟩) HHx.out _⟩
      | true =>
        have HE : Aside0 (seekF es rs s (es.length + 1) 0 = if k + rs < es.length ∧ ltK (rd_T30 es ((k + rs : Nat) : Int)).f0 s = true then seekF es rs s f (k + rs) else seekF es rs s f (k + 1)) := ⟨by rw [HQ.out]; conv => lhs; unfold seekF; rw [if_neg (by omega), HEk.out, if_neg (by show ¬ Op.bytesLess e.f0.toList s.toList = false; rw [hb]; decide)]⟩
        clear b0 b1 b2 b3 y0 y1 y2 y3
        have kr : wrap64 ((k : Int) + (rs : Int)) = ((k + rs : Nat) : Int) := by rw [show wrap64 ((k : Int) + (rs : Int)) = (k : Int) + (rs : Int) from by unfold wrap64; omega]; omega
        by_cases hq : k + rs < n1
        · obtain ⟨ad2, ea2, z0, z1, z2, z3⟩ := at_T30 (Kd.C_below HC1.out HB.out) ((k + rs : Nat) : Int) (by omega) (by omega)
          injection ea2 with ea2
          subst ea2
          obtain ⟨e2, he2⟩ : ∃ e2, rd_T30 es ((k + rs : Nat) : Int) = e2 := ⟨_, rfl⟩
          rw [he2, Int.toNat_natCast] at z0 z1 z2 z3
          rw [he2] at HE
          clear he2
          have d1 : decide (((k + rs : Nat) : Int) < (n1 : Int)) = true := decide_eq_true (by omega)
          have d1' : decide (k + rs < n1) = true := decide_eq_true hq
          have d1'' : decide ((k : Int) + (rs : Int) < (n1 : Int)) = true := decide_eq_true (by omega)
          cases hb2 : Op.bytesLess e2.f0.toList s.toList with
          | true =>
            have HE2 : Aside0 (seekF es rs s (es.length + 1) 0 = seekF es rs s f (k + rs)) := ⟨by rw [HE.out, if_pos ⟨by omega, hb2⟩]⟩
            go_wp2_with fail
            repeat (go_quiet (fail); try (go_wp2_with fail))
            go_roundw
            case rel => exact ⟨k + rs, f, by go_num, by omega, by omega, HE2, ⟨by repeat (first | exact HB.out | apply pw_below_drewN)⟩⟩
            case measure => simp [intOf]; omega
          | false =>
            have HE2 : Aside0 (seekF es rs s (es.length + 1) 0 = seekF es rs s f (k + 1)) := ⟨by rw [HE.out, if_neg (by rintro ⟨_, z⟩; have z' : Op.bytesLess e2.f0.toList s.toList = true := z; rw [hb2] at z'; exact absurd z' (by decide))]⟩
            go_wp2_with fail
            repeat (go_quiet (fail); try (go_wp2_with fail))
            go_roundw
            case rel => exact ⟨k + 1, f, by go_num, by omega, by omega, HE2, ⟨by repeat (first | exact HB.out | apply pw_below_drewN)⟩⟩
            case measure => simp [intOf]; omega
        · have d1 : decide (((k + rs : Nat) : Int) < (n1 : Int)) = false := decide_eq_false (by omega)
          have d1' : decide (k + rs < n1) = false := decide_eq_false hq
          have d1'' : decide ((k : Int) + (rs : Int) < (n1 : Int)) = false := decide_eq_false (by omega)
          have HE2 : Aside0 (seekF es rs s (es.length + 1) 0 = seekF es rs s f (k + 1)) := ⟨by rw [HE.out, if_neg (by omega)]⟩
          go_wp2_with fail
          repeat (go_quiet (fail); try (go_wp2_with fail))
          go_roundw
          case rel => exact ⟨k + 1, f, by go_num, by omega, by omega, HE2, ⟨by repeat (first | exact HB.out | apply pw_below_drewN)⟩⟩
          case measure => simp [intOf]; omega
    · obtain rfl : k = n1 := by omega
      have d0 : decide ((k : Int) ≤ (k : Int)) = true := decide_eq_true (by omega)
      have d0' : decide (k ≤ k) = true := decide_eq_true (by omega)
      have HE : Aside0 (seekF es rs s (es.length + 1) 0 = none) := ⟨by rw [HQ.out]; unfold seekF; rw [if_pos (by omega)]⟩
      go_wp2_with fail
      refine bodyPost_ret (results_ct rfl _ _ gx 30 #[.string (⟨#[]⟩ : ByteArray), .int .u64 0, .bool false, .string (⟨#[]⟩ : ByteArray)] (0, 0) _ rfl (by refine blk_put (cs := #[.string (⟨#[]⟩ : ByteArray), .int .u64 0, .bool false, .string (⟨#[]⟩ : ByteArray)]) ?_ 3 _ rfl; refine blk_put (cs := #[.string (⟨#[]⟩ : ByteArray), .int .u64 0, .bool false, .string (⟨#[]⟩ : ByteArray)]) ?_ 2 _ rfl; refine blk_put (cs := #[.string (⟨#[]⟩ : ByteArray), .int .u64 0, .bool false, .string (⟨#[]⟩ : ByteArray)]) ?_ 1 _ rfl; refine blk_put (cs := #[.string (⟨#[]⟩ : ByteArray), .int .u64 0, .bool false, .string (⟨#[]⟩ : ByteArray)]) ?_ 0 _ rfl; exact HXr.out) Tryd.underlying30 rfl (by kernel_rfl)) rfl ?_
      rw [HE.out]
      exact ⟨rfl, ((((below_step HB0.out HB.out).setCell (p := ⟨gx, 0, none⟩) HHx.out _).setCell (p := ⟨gx, 1, none⟩) HHx.out _).setCell (p := ⟨gx, 2, none⟩) HHx.out _).setCell (p := ⟨gx, 3, none⟩) HHx.out _⟩
end Go.Proofs.YtaonjmkfbfhanaaDoor.Bk
-- Printed by a program of this claim's own out of the translation.
namespace Go.Proofs.YtaonjmkfbfhanaaDoor.QBo
open Go.Proofs.YtaonjmkfbfhanaaDoor.Own
open Go.RowKit Go.Proofs.YtaonjmkfbfhanaaDoorW.PrintWords Go.Proofs.YtaonjmkfbfhanaaDoorW.PrintLast Go.Proofs.YtaonjmkfbfhanaaDoorW.PrintMore
attribute [local go_sem] max2_int min2_int max_two min_two max_three min_three max_four min_four   -- for this text's walks alone
set_option linter.unusedVariables false
set_option linter.unusedSimpArgs false

theorem eqA30 (d : Nat) (w : World) (x0 y0 : ByteArray) (x1 y1 : Int) (x2 y2 : Bool) (x3 y3 : ByteArray) :
    (Op.equalIn (d + 2) 30 (.agg #[.string x0, .int .u64 x1, .bool x2, .string x3]) (.agg #[.string y0, .int .u64 y1, .bool y2, .string y3])).run Tryd.prog w = .ok (x0.toList == y0.toList && (x1 == y1 && (x2 == y2 && (x3.toList == y3.toList)))) w := by
  refine eqA_of Tryd.underlying30 (by kernel_rfl) ?_
  refine eqf_cons (by rfl) (by go_simp; rfl) (by go_simp; rfl) (by go_simp) ?_
  refine eqf_cons (by rfl) (by go_simp; rfl) (by go_simp; rfl) (by go_simp) ?_
  refine eqf_cons (by rfl) (by go_simp; rfl) (by go_simp; rfl) (by go_simp) ?_
  exact eqf_last (by rfl) (by go_simp; rfl) (by go_simp; rfl) (by go_simp)
end Go.Proofs.YtaonjmkfbfhanaaDoor.QBo
-- Printed by a program of this claim's own out of the translation.
namespace Go.Proofs.YtaonjmkfbfhanaaDoor.QBo
open Go.Proofs.YtaonjmkfbfhanaaDoor.Own
open Go.RowKit Go.Proofs.YtaonjmkfbfhanaaDoorW.PrintWords Go.Proofs.YtaonjmkfbfhanaaDoorW.PrintLast Go.Proofs.YtaonjmkfbfhanaaDoorW.PrintMore
attribute [local go_sem] max2_int min2_int max_two min_two max_three min_three max_four min_four   -- for this text's walks alone
set_option linter.unusedVariables false
set_option linter.unusedSimpArgs false

/-! ### screeref9_Fault: function 32 -/
def screeref9_Fault.f (k : Nat) (a0_0 : ByteArray) (a0_1 : Int) (a0_2 : Bool) (a0_3 : ByteArray) : Option (Int) := (screeref1_CheckBatch.f k (([(⟨a0_0, a0_2, a0_3⟩ : S112)] : List (S112)))).bind fun t161 => (if t161 = 0 then (if a0_1 > 72057594037927935 then (some 91) else (if a0_2 = true then (if a0_3.toList = ([] : List UInt8) then (some 0) else (some 91)) else (some 0))) else (some t161))
theorem screeref9_Fault.mono : ∀ a0 a1 a2 a3 k, LeO (screeref9_Fault.f k a0 a1 a2 a3) (screeref9_Fault.f (k + 1) a0 a1 a2 a3) := by
  intro a0 a1 a2 a3 k
  unfold screeref9_Fault.f
  repeat' first
      | (with_reducible exact screeref1_CheckBatch.mono _ _)
      | (with_reducible exact LeO.refl _)
      | (with_reducible exact LeO.none _)
      | (with_reducible refine LeO.ite ?_ ?_)
      | (with_reducible refine LeO.bind ?_ (fun _ => ?_))
      | exact screeref1_CheckBatch.mono _ _
      | exact LeO.none _
      | refine LeO.ite ?_ ?_
      | refine LeO.bind ?_ (fun _ => ?_)
set_option maxHeartbeats 8000000 in
set_option maxRecDepth 100000 in
theorem screeref9_Fault.calls (k : Nat) (a0_0 : ByteArray) (a0_1 : Int) (a0_2 : Bool) (a0_3 : ByteArray) (r : Int) (w : World) (h : screeref9_Fault.f k a0_0 a0_1 a0_2 a0_3 = some r) :
    Calls Tryd.prog 32 #[.agg #[.string a0_0, .int .u64 a0_1, .bool a0_2, .string a0_3]] w fun e w' => e = .returned (.int .i64 r) ∧ Below w.heap.size w w' := by
  have hu30 := Tryd.underlying30
  have hu112 := Tryd.underlying112
  have HB := Aside0.mk (Below.refl w.heap.size w)
  have H : ((screeref1_CheckBatch.f k (([(⟨a0_0, a0_2, a0_3⟩ : S112)] : List (S112)))).bind fun t161 => (if t161 = 0 then (if a0_1 > 72057594037927935 then (some 91) else (if a0_2 = true then (if a0_3.toList = ([] : List UInt8) then (some 0) else (some 91)) else (some 0))) else (some t161))) = some r := h
  clear h
  obtain ⟨y158, hy158⟩ : ∃ y_ : List (S112), y_ = (([(⟨a0_0, a0_2, a0_3⟩ : S112)] : List (S112))) := ⟨_, rfl⟩
  replace H : ((screeref1_CheckBatch.f k y158).bind fun t161 => (if t161 = 0 then (if a0_1 > 72057594037927935 then (some 91) else (if a0_2 = true then (if a0_3.toList = ([] : List UInt8) then (some 0) else (some 91)) else (some 0))) else (some t161))) = some r := by first | (rw [hy158]; with_reducible exact H) | (have H2_ := (Option.bind_some _ _).symm.trans H; rw [hy158]; with_reducible exact H2_) | (have H2_ := (Option.bind_some _ _).symm.trans H; with_reducible exact H2_) | with_reducible exact H | (rw [hy158]; exact H) | exact H
  have Ny158 := Aside0.mk hy158
  clear hy158
  replace H := Option.bind_eq_some_iff.mp H
  obtain ⟨t161, A20, H⟩ := H
  replace H : (if t161 = 0 then (if a0_1 > 72057594037927935 then (some 91) else (if a0_2 = true then (if a0_3.toList = ([] : List UInt8) then (some 0) else (some 91)) else (some 0))) else (some t161)) = some r := H
  have A2 := Aside0.mk A20
  clear A20
  by_cases c3 : t161 = 0
  · rw [if_pos c3] at H
    have c3b0 : (t161 == 0) = true := beq_iff_eq.mpr c3
    have c3b1 : (t161 != 0) = false := bne_eq_false_iff_eq.mpr c3
    clear c3
    by_cases c4 : a0_1 > 72057594037927935
    · rw [if_pos c4] at H
      have c4b0 : decide (72057594037927935 < a0_1) = true := decide_eq_true c4
      clear c4
      obtain rfl := Option.some.inj H
      go_enter Tryd.func32, Tryd.ntmps32
      go_wp2_with (first | ((with_reducible refine gate_dst (N := 1) rfl ?_); refine box_event ?hg (N := 1) ?hd (cs := #[.string a0_0, .int .u64 a0_1, .bool a0_2, .string a0_3]) (t := 30) ?hr ?_; (case hd => rfl); (case hg => rfl); (case hr => first | (go_simp; done) | (go_simp; rfl)); intro gb157 hg w5 hbox hb; have n0_ := Aside0.mk (below_step (by repeat (first | (with_reducible first | exact HB.out | apply below_alloc | apply pw_below_drewN | apply below_drew1) | exact HB.out)) hb); have n1_ := Aside0.mk (hbox); have n2_ := Aside0.mk ((by rw [hg]; exact (below_size (by repeat (first | (with_reducible first | exact HB.out | apply below_alloc | apply pw_below_drewN | apply below_drew1) | exact HB.out))) : w.heap.size ≤ gb157)); have n3_ := Aside0.mk ((by rw [hg]; exact (below_size (by repeat (first | (with_reducible first | exact HB.out | apply below_alloc | apply pw_below_drewN | apply below_drew1) | exact HB.out))) : w.heap.size ≤ gb157)); clear HB; have HB := n0_; have BK157 := n1_; have GW157 := n2_; have GE157 := n3_; clear n0_ n1_ n2_ n3_; clear hb hbox hg; have hcz6_0 : w5.cell? ⟨gb157, 0, none⟩ = some (.string a0_0) := (blk_cell BK157.out 0).trans rfl; have hcz6_1 : w5.cell? ⟨gb157, 1, none⟩ = some (.int .u64 a0_1) := (blk_cell BK157.out 1).trans rfl; have hcz6_2 : w5.cell? ⟨gb157, 2, none⟩ = some (.bool a0_2) := (blk_cell BK157.out 2).trans rfl; have hcz6_3 : w5.cell? ⟨gb157, 3, none⟩ = some (.string a0_3) := (blk_cell BK157.out 3).trans rfl; have hfz6_0 := blk_frozen BK157.out 0; have hfz6_1 := blk_frozen BK157.out 1; have hfz6_2 := blk_frozen BK157.out 2; have hfz6_3 := blk_frozen BK157.out 3) | ((with_reducible refine gate_dst (N := 11) rfl ?_); refine Kd.R_lit k112 _ 112 ?hg (N := 11) ?hd (xs := ([(⟨a0_0, a0_2, a0_3⟩ : S112)] : List (S112))) (inner := [.string a0_0, .bool a0_2, .string a0_3]) (ok := fun _ => True) (okp := fun _ => True) ?hr ?hp (fun _ hk => hk) trivial (Below.refl _ _) (Nat.le_refl _) (by simp) ?_; (case hd => rfl); (case hg => rfl); (case hr => first | (go_simp; done) | (go_simp; rfl)); (case hp => exact (Reps.c3 (show Kd.M k112 _ _ _ (⟨a0_0, a0_2, a0_3⟩ : S112) [.string a0_0, .bool a0_2, .string a0_3] from (k112_mkM _ _ _ (⟨a0_0, a0_2, a0_3⟩ : S112) )) (Reps.none _ _))); intro v159 w7 ho8 hb hg_ hnew_; clear hg_ hnew_; (first | rw [← Ny158.out] at ho8 | (simp only [Int.reduceToNat] at ho8; rw [← Ny158.out] at ho8)); have n0_ := Aside0.mk (Kd.R_lower ho8 (below_size (by repeat (first | (with_reducible first | exact HB.out | apply below_alloc | apply pw_below_drewN | apply below_drew1 | refine below_set ?_ GE157.out) | exact HB.out)))); have n1_ := Aside0.mk (blk_below (g := gb157) (o := .cells #[.string a0_0, .int .u64 a0_1, .bool a0_2, .string a0_3] 30 (0, 0)) (by (with_reducible repeat (first | refine blk_drewN ?_ _ | refine blk_drew ?_ | refine blk_alloc ?_ _)); exact BK157.out) hb); have n2_ := Aside0.mk (below_step (by repeat (first | (with_reducible first | exact HB.out | apply below_alloc | apply pw_below_drewN | apply below_drew1 | refine below_set ?_ GE157.out) | exact HB.out)) hb); clear BK157; clear HB; have HO160 := n0_; have BK157 := n1_; have HB := n2_; clear n0_ n1_ n2_; clear hb ho8; obtain ⟨Ao9, co9, eo9⟩ := Kd.R_slice HO160.out; subst eo9) | ((with_reducible refine gate_callee (f := 65) rfl ?_); refine goesL_ (some 12) rfl rfl Tryd.func65 (by kernel_rfl) rfl #[.slice Ao9 y158.length co9] rfl (by (try simp only [List.map_toArray, List.map_cons, List.map_nil]); first | done | rfl | (simp only [List.length_drop, List.length_take]; rfl)) ?_; (with_reducible refine (screeref1_CheckBatch.calls k _ _ y158 t161 _ ?side1 ?side2 A2.out).mono ?_); (case side1 => repeat (first | exact (Kd.R_reads' HO160.out).2.2 | (with_reducible refine Kd.C_alloc ?_ _) | (with_reducible refine Kd.C_drewN ?_ _) | (with_reducible refine Kd.C_drew ?_))); (case side2 => exact (Kd.R_reads' HO160.out).2.1); rintro e w' ⟨rfl, ⟨nd, rfl⟩⟩; refine ⟨_, rfl, ?_⟩; have hcz10_0 : w7.cell? ⟨gb157, 0, none⟩ = some (.string a0_0) := (blk_cell BK157.out 0).trans rfl; have hcz10_1 : w7.cell? ⟨gb157, 1, none⟩ = some (.int .u64 a0_1) := (blk_cell BK157.out 1).trans rfl; have hcz10_2 : w7.cell? ⟨gb157, 2, none⟩ = some (.bool a0_2) := (blk_cell BK157.out 2).trans rfl; have hcz10_3 : w7.cell? ⟨gb157, 3, none⟩ = some (.string a0_3) := (blk_cell BK157.out 3).trans rfl; have hfz10_0 := blk_frozen BK157.out 0; have hfz10_1 := blk_frozen BK157.out 1; have hfz10_2 := blk_frozen BK157.out 2; have hfz10_3 := blk_frozen BK157.out 3))
      go_ret
      exact ⟨by first | rfl | (simp [errW_none, errW_some] <;> rfl) | (simp [*, errW_none, errW_some] <;> rfl), by repeat (first | (with_reducible first | exact HB.out | apply below_alloc | apply pw_below_drewN | apply below_drew1 | refine below_set ?_ GE157.out) | exact HB.out)⟩
    · rw [if_neg c4] at H
      have c4b0 : decide (72057594037927935 < a0_1) = false := decide_eq_false c4
      clear c4
      by_cases c11 : a0_2 = true
      · subst c11
        have H1 : (if a0_3.toList = ([] : List UInt8) then (some 0) else (some 91)) = some r := by rw [if_pos rfl] at H; exact H
        clear H
        have H := H1
        clear H1
        by_cases c12 : a0_3.toList = ([] : List UInt8)
        · rw [if_pos c12] at H
          have c12b0 : (a0_3.toList == ([] : List UInt8)) = true := beq_iff_eq.mpr c12
          have c12b1 : (a0_3.toList != ([] : List UInt8)) = false := bne_eq_false_iff_eq.mpr c12
          clear c12
          obtain rfl := Option.some.inj H
          go_enter Tryd.func32, Tryd.ntmps32
          go_wp2_with (first | ((with_reducible refine gate_dst (N := 1) rfl ?_); refine box_event ?hg (N := 1) ?hd (cs := #[.string a0_0, .int .u64 a0_1, .bool true, .string a0_3]) (t := 30) ?hr ?_; (case hd => rfl); (case hg => rfl); (case hr => first | (go_simp; done) | (go_simp; rfl)); intro gb157 hg w13 hbox hb; have n0_ := Aside0.mk (below_step (by repeat (first | (with_reducible first | exact HB.out | apply below_alloc | apply pw_below_drewN | apply below_drew1) | exact HB.out)) hb); have n1_ := Aside0.mk (hbox); have n2_ := Aside0.mk ((by rw [hg]; exact (below_size (by repeat (first | (with_reducible first | exact HB.out | apply below_alloc | apply pw_below_drewN | apply below_drew1) | exact HB.out))) : w.heap.size ≤ gb157)); have n3_ := Aside0.mk ((by rw [hg]; exact (below_size (by repeat (first | (with_reducible first | exact HB.out | apply below_alloc | apply pw_below_drewN | apply below_drew1) | exact HB.out))) : w.heap.size ≤ gb157)); clear HB; have HB := n0_; have BK157 := n1_; have GW157 := n2_; have GE157 := n3_; clear n0_ n1_ n2_ n3_; clear hb hbox hg; have hcz14_0 : w13.cell? ⟨gb157, 0, none⟩ = some (.string a0_0) := (blk_cell BK157.out 0).trans rfl; have hcz14_1 : w13.cell? ⟨gb157, 1, none⟩ = some (.int .u64 a0_1) := (blk_cell BK157.out 1).trans rfl; have hcz14_2 : w13.cell? ⟨gb157, 2, none⟩ = some (.bool true) := (blk_cell BK157.out 2).trans rfl; have hcz14_3 : w13.cell? ⟨gb157, 3, none⟩ = some (.string a0_3) := (blk_cell BK157.out 3).trans rfl; have hfz14_0 := blk_frozen BK157.out 0; have hfz14_1 := blk_frozen BK157.out 1; have hfz14_2 := blk_frozen BK157.out 2; have hfz14_3 := blk_frozen BK157.out 3) | ((with_reducible refine gate_dst (N := 11) rfl ?_); refine Kd.R_lit k112 _ 112 ?hg (N := 11) ?hd (xs := ([(⟨a0_0, true, a0_3⟩ : S112)] : List (S112))) (inner := [.string a0_0, .bool true, .string a0_3]) (ok := fun _ => True) (okp := fun _ => True) ?hr ?hp (fun _ hk => hk) trivial (Below.refl _ _) (Nat.le_refl _) (by simp) ?_; (case hd => rfl); (case hg => rfl); (case hr => first | (go_simp; done) | (go_simp; rfl)); (case hp => exact (Reps.c3 (show Kd.M k112 _ _ _ (⟨a0_0, true, a0_3⟩ : S112) [.string a0_0, .bool true, .string a0_3] from (k112_mkM _ _ _ (⟨a0_0, true, a0_3⟩ : S112) )) (Reps.none _ _))); intro v159 w15 ho16 hb hg_ hnew_; clear hg_ hnew_; (first | rw [← Ny158.out] at ho16 | (simp only [Int.reduceToNat] at ho16; rw [← Ny158.out] at ho16)); have n0_ := Aside0.mk (Kd.R_lower ho16 (below_size (by repeat (first | (with_reducible first | exact HB.out | apply below_alloc | apply pw_below_drewN | apply below_drew1 | refine below_set ?_ GE157.out) | exact HB.out)))); have n1_ := Aside0.mk (blk_below (g := gb157) (o := .cells #[.string a0_0, .int .u64 a0_1, .bool true, .string a0_3] 30 (0, 0)) (by (with_reducible repeat (first | refine blk_drewN ?_ _ | refine blk_drew ?_ | refine blk_alloc ?_ _)); exact BK157.out) hb); have n2_ := Aside0.mk (below_step (by repeat (first | (with_reducible first | exact HB.out | apply below_alloc | apply pw_below_drewN | apply below_drew1 | refine below_set ?_ GE157.out) | exact HB.out)) hb); clear BK157; clear HB; have HO160 := n0_; have BK157 := n1_; have HB := n2_; clear n0_ n1_ n2_; clear hb ho16; obtain ⟨Ao17, co17, eo17⟩ := Kd.R_slice HO160.out; subst eo17) | ((with_reducible refine gate_callee (f := 65) rfl ?_); refine goesL_ (some 12) rfl rfl Tryd.func65 (by kernel_rfl) rfl #[.slice Ao17 y158.length co17] rfl (by (try simp only [List.map_toArray, List.map_cons, List.map_nil]); first | done | rfl | (simp only [List.length_drop, List.length_take]; rfl)) ?_; (with_reducible refine (screeref1_CheckBatch.calls k _ _ y158 t161 _ ?side1 ?side2 A2.out).mono ?_); (case side1 => repeat (first | exact (Kd.R_reads' HO160.out).2.2 | (with_reducible refine Kd.C_alloc ?_ _) | (with_reducible refine Kd.C_drewN ?_ _) | (with_reducible refine Kd.C_drew ?_))); (case side2 => exact (Kd.R_reads' HO160.out).2.1); rintro e w' ⟨rfl, ⟨nd, rfl⟩⟩; refine ⟨_, rfl, ?_⟩; have hcz18_0 : w15.cell? ⟨gb157, 0, none⟩ = some (.string a0_0) := (blk_cell BK157.out 0).trans rfl; have hcz18_1 : w15.cell? ⟨gb157, 1, none⟩ = some (.int .u64 a0_1) := (blk_cell BK157.out 1).trans rfl; have hcz18_2 : w15.cell? ⟨gb157, 2, none⟩ = some (.bool true) := (blk_cell BK157.out 2).trans rfl; have hcz18_3 : w15.cell? ⟨gb157, 3, none⟩ = some (.string a0_3) := (blk_cell BK157.out 3).trans rfl; have hfz18_0 := blk_frozen BK157.out 0; have hfz18_1 := blk_frozen BK157.out 1; have hfz18_2 := blk_frozen BK157.out 2; have hfz18_3 := blk_frozen BK157.out 3))
          go_ret
          exact ⟨by first | rfl | (simp [errW_none, errW_some] <;> rfl) | (simp [*, errW_none, errW_some] <;> rfl), by repeat (first | (with_reducible first | exact HB.out | apply below_alloc | apply pw_below_drewN | apply below_drew1 | refine below_set ?_ GE157.out) | exact HB.out)⟩
        · rw [if_neg c12] at H
          have c12b0 : (a0_3.toList == ([] : List UInt8)) = false := beq_eq_false_iff_ne.mpr c12
          have c12b1 : (a0_3.toList != ([] : List UInt8)) = true := bne_iff_ne.mpr c12
          obtain rfl := Option.some.inj H
          go_enter Tryd.func32, Tryd.ntmps32
          go_wp2_with (first | ((with_reducible refine gate_dst (N := 1) rfl ?_); refine box_event ?hg (N := 1) ?hd (cs := #[.string a0_0, .int .u64 a0_1, .bool true, .string a0_3]) (t := 30) ?hr ?_; (case hd => rfl); (case hg => rfl); (case hr => first | (go_simp; done) | (go_simp; rfl)); intro gb157 hg w19 hbox hb; have n0_ := Aside0.mk (below_step (by repeat (first | (with_reducible first | exact HB.out | apply below_alloc | apply pw_below_drewN | apply below_drew1) | exact HB.out)) hb); have n1_ := Aside0.mk (hbox); have n2_ := Aside0.mk ((by rw [hg]; exact (below_size (by repeat (first | (with_reducible first | exact HB.out | apply below_alloc | apply pw_below_drewN | apply below_drew1) | exact HB.out))) : w.heap.size ≤ gb157)); have n3_ := Aside0.mk ((by rw [hg]; exact (below_size (by repeat (first | (with_reducible first | exact HB.out | apply below_alloc | apply pw_below_drewN | apply below_drew1) | exact HB.out))) : w.heap.size ≤ gb157)); clear HB; have HB := n0_; have BK157 := n1_; have GW157 := n2_; have GE157 := n3_; clear n0_ n1_ n2_ n3_; clear hb hbox hg; have hcz20_0 : w19.cell? ⟨gb157, 0, none⟩ = some (.string a0_0) := (blk_cell BK157.out 0).trans rfl; have hcz20_1 : w19.cell? ⟨gb157, 1, none⟩ = some (.int .u64 a0_1) := (blk_cell BK157.out 1).trans rfl; have hcz20_2 : w19.cell? ⟨gb157, 2, none⟩ = some (.bool true) := (blk_cell BK157.out 2).trans rfl; have hcz20_3 : w19.cell? ⟨gb157, 3, none⟩ = some (.string a0_3) := (blk_cell BK157.out 3).trans rfl; have hfz20_0 := blk_frozen BK157.out 0; have hfz20_1 := blk_frozen BK157.out 1; have hfz20_2 := blk_frozen BK157.out 2; have hfz20_3 := blk_frozen BK157.out 3) | ((with_reducible refine gate_dst (N := 11) rfl ?_); refine Kd.R_lit k112 _ 112 ?hg (N := 11) ?hd (xs := ([(⟨a0_0, true, a0_3⟩ : S112)] : List (S112))) (inner := [.string a0_0, .bool true, .string a0_3]) (ok := fun _ => True) (okp := fun _ => True) ?hr ?hp (fun _ hk => hk) trivial (Below.refl _ _) (Nat.le_refl _) (by simp) ?_; (case hd => rfl); (case hg => rfl); (case hr => first | (go_simp; done) | (go_simp; rfl)); (case hp => exact (Reps.c3 (show Kd.M k112 _ _ _ (⟨a0_0, true, a0_3⟩ : S112) [.string a0_0, .bool true, .string a0_3] from (k112_mkM _ _ _ (⟨a0_0, true, a0_3⟩ : S112) )) (Reps.none _ _))); intro v159 w21 ho22 hb hg_ hnew_; clear hg_ hnew_; (first | rw [← Ny158.out] at ho22 | (simp only [Int.reduceToNat] at ho22; rw [← Ny158.out] at ho22)); have n0_ := Aside0.mk (Kd.R_lower ho22 (below_size (by repeat (first | (with_reducible first | exact HB.out | apply below_alloc | apply pw_below_drewN | apply below_drew1 | refine below_set ?_ GE157.out) | exact HB.out)))); have n1_ := Aside0.mk (blk_below (g := gb157) (o := .cells #[.string a0_0, .int .u64 a0_1, .bool true, .string a0_3] 30 (0, 0)) (by (with_reducible repeat (first | refine blk_drewN ?_ _ | refine blk_drew ?_ | refine blk_alloc ?_ _)); exact BK157.out) hb); have n2_ := Aside0.mk (below_step (by repeat (first | (with_reducible first | exact HB.out | apply below_alloc | apply pw_below_drewN | apply below_drew1 | refine below_set ?_ GE157.out) | exact HB.out)) hb); clear BK157; clear HB; have HO160 := n0_; have BK157 := n1_; have HB := n2_; clear n0_ n1_ n2_; clear hb ho22; obtain ⟨Ao23, co23, eo23⟩ := Kd.R_slice HO160.out; subst eo23) | ((with_reducible refine gate_callee (f := 65) rfl ?_); refine goesL_ (some 12) rfl rfl Tryd.func65 (by kernel_rfl) rfl #[.slice Ao23 y158.length co23] rfl (by (try simp only [List.map_toArray, List.map_cons, List.map_nil]); first | done | rfl | (simp only [List.length_drop, List.length_take]; rfl)) ?_; (with_reducible refine (screeref1_CheckBatch.calls k _ _ y158 t161 _ ?side1 ?side2 A2.out).mono ?_); (case side1 => repeat (first | exact (Kd.R_reads' HO160.out).2.2 | (with_reducible refine Kd.C_alloc ?_ _) | (with_reducible refine Kd.C_drewN ?_ _) | (with_reducible refine Kd.C_drew ?_))); (case side2 => exact (Kd.R_reads' HO160.out).2.1); rintro e w' ⟨rfl, ⟨nd, rfl⟩⟩; refine ⟨_, rfl, ?_⟩; have hcz24_0 : w21.cell? ⟨gb157, 0, none⟩ = some (.string a0_0) := (blk_cell BK157.out 0).trans rfl; have hcz24_1 : w21.cell? ⟨gb157, 1, none⟩ = some (.int .u64 a0_1) := (blk_cell BK157.out 1).trans rfl; have hcz24_2 : w21.cell? ⟨gb157, 2, none⟩ = some (.bool true) := (blk_cell BK157.out 2).trans rfl; have hcz24_3 : w21.cell? ⟨gb157, 3, none⟩ = some (.string a0_3) := (blk_cell BK157.out 3).trans rfl; have hfz24_0 := blk_frozen BK157.out 0; have hfz24_1 := blk_frozen BK157.out 1; have hfz24_2 := blk_frozen BK157.out 2; have hfz24_3 := blk_frozen BK157.out 3))
          go_ret
          exact ⟨by first | rfl | (simp [errW_none, errW_some] <;> rfl) | (simp [*, errW_none, errW_some] <;> rfl), by repeat (first | (with_reducible first | exact HB.out | apply below_alloc | apply pw_below_drewN | apply below_drew1 | refine below_set ?_ GE157.out) | exact HB.out)⟩
      · replace c11 := Bool.eq_false_iff.mpr c11
        subst c11
        have H1 : (some 0) = some r := by rw [if_neg (show ¬ (false = true) by decide)] at H; exact H
        clear H
        have H := H1
        clear H1
        obtain rfl := Option.some.inj H
        go_enter Tryd.func32, Tryd.ntmps32
        go_wp2_with (first | ((with_reducible refine gate_dst (N := 1) rfl ?_); refine box_event ?hg (N := 1) ?hd (cs := #[.string a0_0, .int .u64 a0_1, .bool false, .string a0_3]) (t := 30) ?hr ?_; (case hd => rfl); (case hg => rfl); (case hr => first | (go_simp; done) | (go_simp; rfl)); intro gb157 hg w25 hbox hb; have n0_ := Aside0.mk (below_step (by repeat (first | (with_reducible first | exact HB.out | apply below_alloc | apply pw_below_drewN | apply below_drew1) | exact HB.out)) hb); have n1_ := Aside0.mk (hbox); have n2_ := Aside0.mk ((by rw [hg]; exact (below_size (by repeat (first | (with_reducible first | exact HB.out | apply below_alloc | apply pw_below_drewN | apply below_drew1) | exact HB.out))) : w.heap.size ≤ gb157)); have n3_ := Aside0.mk ((by rw [hg]; exact (below_size (by repeat (first | (with_reducible first | exact HB.out | apply below_alloc | apply pw_below_drewN | apply below_drew1) | exact HB.out))) : w.heap.size ≤ gb157)); clear HB; have HB := n0_; have BK157 := n1_; have GW157 := n2_; have GE157 := n3_; clear n0_ n1_ n2_ n3_; clear hb hbox hg; have hcz26_0 : w25.cell? ⟨gb157, 0, none⟩ = some (.string a0_0) := (blk_cell BK157.out 0).trans rfl; have hcz26_1 : w25.cell? ⟨gb157, 1, none⟩ = some (.int .u64 a0_1) := (blk_cell BK157.out 1).trans rfl; have hcz26_2 : w25.cell? ⟨gb157, 2, none⟩ = some (.bool false) := (blk_cell BK157.out 2).trans rfl; have hcz26_3 : w25.cell? ⟨gb157, 3, none⟩ = some (.string a0_3) := (blk_cell BK157.out 3).trans rfl; have hfz26_0 := blk_frozen BK157.out 0; have hfz26_1 := blk_frozen BK157.out 1; have hfz26_2 := blk_frozen BK157.out 2; have hfz26_3 := blk_frozen BK157.out 3) | ((with_reducible refine gate_dst (N := 11) rfl ?_); refine Kd.R_lit k112 _ 112 ?hg (N := 11) ?hd (xs := ([(⟨a0_0, false, a0_3⟩ : S112)] : List (S112))) (inner := [.string a0_0, .bool false, .string a0_3]) (ok := fun _ => True) (okp := fun _ => True) ?hr ?hp (fun _ hk => hk) trivial (Below.refl _ _) (Nat.le_refl _) (by simp) ?_; (case hd => rfl); (case hg => rfl); (case hr => first | (go_simp; done) | (go_simp; rfl)); (case hp => exact (Reps.c3 (show Kd.M k112 _ _ _ (⟨a0_0, false, a0_3⟩ : S112) [.string a0_0, .bool false, .string a0_3] from (k112_mkM _ _ _ (⟨a0_0, false, a0_3⟩ : S112) )) (Reps.none _ _))); intro v159 w27 ho28 hb hg_ hnew_; clear hg_ hnew_; (first | rw [← Ny158.out] at ho28 | (simp only [Int.reduceToNat] at ho28; rw [← Ny158.out] at ho28)); have n0_ := Aside0.mk (Kd.R_lower ho28 (below_size (by repeat (first | (with_reducible first | exact HB.out | apply below_alloc | apply pw_below_drewN | apply below_drew1 | refine below_set ?_ GE157.out) | exact HB.out)))); have n1_ := Aside0.mk (blk_below (g := gb157) (o := .cells #[.string a0_0, .int .u64 a0_1, .bool false, .string a0_3] 30 (0, 0)) (by (with_reducible repeat (first | refine blk_drewN ?_ _ | refine blk_drew ?_ | refine blk_alloc ?_ _)); exact BK157.out) hb); have n2_ := Aside0.mk (below_step (by repeat (first | (with_reducible first | exact HB.out | apply below_alloc | apply pw_below_drewN | apply below_drew1 | refine below_set ?_ GE157.out) | exact HB.out)) hb); clear BK157; clear HB; have HO160 := n0_; have BK157 := n1_; have HB := n2_; clear n0_ n1_ n2_; clear hb ho28; obtain ⟨Ao29, co29, eo29⟩ := Kd.R_slice HO160.out; subst eo29) | ((with_reducible refine gate_callee (f := 65) rfl ?_); refine goesL_ (some 12) rfl rfl Tryd.func65 (by kernel_rfl) rfl #[.slice Ao29 y158.length co29] rfl (by (try simp only [List.map_toArray, List.map_cons, List.map_nil]); first | done | rfl | (simp only [List.length_drop, List.length_take]; rfl)) ?_; (with_reducible refine (screeref1_CheckBatch.calls k _ _ y158 t161 _ ?side1 ?side2 A2.out).mono ?_); (case side1 => repeat (first | exact (Kd.R_reads' HO160.out).2.2 | (with_reducible refine Kd.C_alloc ?_ _) | (with_reducible refine Kd.C_drewN ?_ _) | (with_reducible refine Kd.C_drew ?_))); (case side2 => exact (Kd.R_reads' HO160.out).2.1); rintro e w' ⟨rfl, ⟨nd, rfl⟩⟩; refine ⟨_, rfl, ?_⟩; have hcz30_0 : w27.cell? ⟨gb157, 0, none⟩ = some (.string a0_0) := (blk_cell BK157.out 0).trans rfl; have hcz30_1 : w27.cell? ⟨gb157, 1, none⟩ = some (.int .u64 a0_1) := (blk_cell BK157.out 1).trans rfl; have hcz30_2 : w27.cell? ⟨gb157, 2, none⟩ = some (.bool false) := (blk_cell BK157.out 2).trans rfl; have hcz30_3 : w27.cell? ⟨gb157, 3, none⟩ = some (.string a0_3) := (blk_cell BK157.out 3).trans rfl; have hfz30_0 := blk_frozen BK157.out 0; have hfz30_1 := blk_frozen BK157.out 1; have hfz30_2 := blk_frozen BK157.out 2; have hfz30_3 := blk_frozen BK157.out 3))
        go_ret
        exact ⟨by first | rfl | (simp [errW_none, errW_some] <;> rfl) | (simp [*, errW_none, errW_some] <;> rfl), by repeat (first | (with_reducible first | exact HB.out | apply below_alloc | apply pw_below_drewN | apply below_drew1 | refine below_set ?_ GE157.out) | exact HB.out)⟩
  · rw [if_neg c3] at H
    have c3b0 : (t161 == 0) = false := beq_eq_false_iff_ne.mpr c3
    have c3b1 : (t161 != 0) = true := bne_iff_ne.mpr c3
    obtain rfl := Option.some.inj H
    go_enter Tryd.func32, Tryd.ntmps32
    go_wp2_with (first | ((with_reducible refine gate_dst (N := 1) rfl ?_); refine box_event ?hg (N := 1) ?hd (cs := #[.string a0_0, .int .u64 a0_1, .bool a0_2, .string a0_3]) (t := 30) ?hr ?_; (case hd => rfl); (case hg => rfl); (case hr => first | (go_simp; done) | (go_simp; rfl)); intro gb157 hg w31 hbox hb; have n0_ := Aside0.mk (below_step (by repeat (first | (with_reducible first | exact HB.out | apply below_alloc | apply pw_below_drewN | apply below_drew1) | exact HB.out)) hb); have n1_ := Aside0.mk (hbox); have n2_ := Aside0.mk ((by rw [hg]; exact (below_size (by repeat (first | (with_reducible first | exact HB.out | apply below_alloc | apply pw_below_drewN | apply below_drew1) | exact HB.out))) : w.heap.size ≤ gb157)); have n3_ := Aside0.mk ((by rw [hg]; exact (below_size (by repeat (first | (with_reducible first | exact HB.out | apply below_alloc | apply pw_below_drewN | apply below_drew1) | exact HB.out))) : w.heap.size ≤ gb157)); clear HB; have HB := n0_; have BK157 := n1_; have GW157 := n2_; have GE157 := n3_; clear n0_ n1_ n2_ n3_; clear hb hbox hg; have hcz32_0 : w31.cell? ⟨gb157, 0, none⟩ = some (.string a0_0) := (blk_cell BK157.out 0).trans rfl; have hcz32_1 : w31.cell? ⟨gb157, 1, none⟩ = some (.int .u64 a0_1) := (blk_cell BK157.out 1).trans rfl; have hcz32_2 : w31.cell? ⟨gb157, 2, none⟩ = some (.bool a0_2) := (blk_cell BK157.out 2).trans rfl; have hcz32_3 : w31.cell? ⟨gb157, 3, none⟩ = some (.string a0_3) := (blk_cell BK157.out 3).trans rfl; have hfz32_0 := blk_frozen BK157.out 0; have hfz32_1 := blk_frozen BK157.out 1; have hfz32_2 := blk_frozen BK157.out 2; have hfz32_3 := blk_frozen BK157.out 3) | ((with_reducible refine gate_dst (N := 11) rfl ?_); refine Kd.R_lit k112 _ 112 ?hg (N := 11) ?hd (xs := ([(⟨a0_0, a0_2, a0_3⟩ : S112)] : List (S112))) (inner := [.string a0_0, .bool a0_2, .string a0_3]) (ok := fun _ => True) (okp := fun _ => True) ?hr ?hp (fun _ hk => hk) trivial (Below.refl _ _) (Nat.le_refl _) (by simp) ?_; (case hd => rfl); (case hg => rfl); (case hr => first | (go_simp; done) | (go_simp; rfl)); (case hp => exact (Reps.c3 (show Kd.M k112 _ _ _ (⟨a0_0, a0_2, a0_3⟩ : S112) [.string a0_0, .bool a0_2, .string a0_3] from (k112_mkM _ _ _ (⟨a0_0, a0_2, a0_3⟩ : S112) )) (Reps.none _ _))); intro v159 w33 ho34 hb hg_ hnew_; clear hg_ hnew_; (first | rw [← Ny158.out] at ho34 | (simp only [Int.reduceToNat] at ho34; rw [← Ny158.out] at ho34)); have n0_ := Aside0.mk (Kd.R_lower ho34 (below_size (by repeat (first | (with_reducible first | exact HB.out | apply below_alloc | apply pw_below_drewN | apply below_drew1 | refine below_set ?_ GE157.out) | exact HB.out)))); have n1_ := Aside0.mk (blk_below (g := gb157) (o := .cells #[.string a0_0, .int .u64 a0_1, .bool a0_2, .string a0_3] 30 (0, 0)) (by (with_reducible repeat (first | refine blk_drewN ?_ _ | refine blk_drew ?_ | refine blk_alloc ?_ _)); exact BK157.out) hb); have n2_ := Aside0.mk (below_step (by repeat (first | (with_reducible first | exact HB.out | apply below_alloc | apply pw_below_drewN | apply below_drew1 | refine below_set ?_ GE157.out) | exact HB.out)) hb); clear BK157; clear HB; have HO160 := n0_; have BK157 := n1_; have HB := n2_; clear n0_ n1_ n2_; clear hb ho34; obtain ⟨Ao35, co35, eo35⟩ := Kd.R_slice HO160.out; subst eo35) | ((with_reducible refine gate_callee (f := 65) rfl ?_); refine goesL_ (some 12) rfl rfl Tryd.func65 (by kernel_rfl) rfl #[.slice Ao35 y158.length co35] rfl (by (try simp only [List.map_toArray, List.map_cons, List.map_nil]); first | done | rfl | (simp only [List.length_drop, List.length_take]; rfl)) ?_; (with_reducible refine (screeref1_CheckBatch.calls k _ _ y158 t161 _ ?side1 ?side2 A2.out).mono ?_); (case side1 => repeat (first | exact (Kd.R_reads' HO160.out).2.2 | (with_reducible refine Kd.C_alloc ?_ _) | (with_reducible refine Kd.C_drewN ?_ _) | (with_reducible refine Kd.C_drew ?_))); (case side2 => exact (Kd.R_reads' HO160.out).2.1); rintro e w' ⟨rfl, ⟨nd, rfl⟩⟩; refine ⟨_, rfl, ?_⟩))
    go_ret
    exact ⟨by first | rfl | (simp [errW_none, errW_some] <;> rfl) | (simp [*, errW_none, errW_some] <;> rfl), by repeat (first | (with_reducible first | exact HB.out | apply below_alloc | apply pw_below_drewN | apply below_drew1 | refine below_set ?_ GE157.out) | exact HB.out)⟩

/-! ### screeref1_below: function 84 -/
mutual
def screeref1_below.l0 : Nat → ByteArray → ByteArray → Int → Option (Bool)
  | 0, _, _, _ => none
  | k + 1, x0, x1, x5 => if x5 < (x0.size : Int) then (screeref1_below.j1 k x0 x1 x5 (decide (x5 < (x1.size : Int)))) else (screeref1_below.j1 k x0 x1 x5 false)
def screeref1_below.j1 : Nat → ByteArray → ByteArray → Int → Bool → Option (Bool)
  | 0, _, _, _, _ => none
  | k + 1, x0, x1, x5, x15 => if x15 = true then (if 0 ≤ x5 then (if x5 < (x0.size : Int) then (if x5 < (x1.size : Int) then (if (bt x0 x5) = (bt x1 x5) then (screeref1_below.l0 k x0 x1 (wrap64 (x5 + 1))) else (some (decide ((bt x0 x5) < (bt x1 x5))))) else (none)) else (none)) else (none)) else (some (decide ((x0.size : Int) < (x1.size : Int))))
end
def screeref1_below.f (k : Nat) (a0 : ByteArray) (a1 : ByteArray) : Option (Bool) := screeref1_below.l0 k a0 a1 0
theorem screeref1_below.mono_l : ∀ k, (∀ y0 y1 y2, LeO (screeref1_below.l0 k y0 y1 y2) (screeref1_below.l0 (k + 1) y0 y1 y2)) ∧ (∀ y0 y1 y2 y3, LeO (screeref1_below.j1 k y0 y1 y2 y3) (screeref1_below.j1 (k + 1) y0 y1 y2 y3))
  | 0 => ⟨fun _ _ _ r h => by simp [screeref1_below.l0] at h, fun _ _ _ _ r h => by simp [screeref1_below.j1] at h⟩
  | k + 1 => by
    obtain ⟨ih0, ih1⟩ := screeref1_below.mono_l k
    refine ⟨?_, ?_⟩
    · intro y0 y1 y2
      unfold screeref1_below.l0
      repeat' first
      | (with_reducible exact ih0 _ _ _)
      | (with_reducible exact ih1 _ _ _ _)
      | (with_reducible exact LeO.refl _)
      | (with_reducible exact LeO.none _)
      | (with_reducible refine LeO.ite ?_ ?_)
      | (with_reducible refine LeO.bind ?_ (fun _ => ?_))
      | exact ih0 _ _ _
      | exact ih1 _ _ _ _
      | exact LeO.none _
      | refine LeO.ite ?_ ?_
      | refine LeO.bind ?_ (fun _ => ?_)
    · intro y0 y1 y2 y3
      unfold screeref1_below.j1
      repeat' first
      | (with_reducible exact ih0 _ _ _)
      | (with_reducible exact ih1 _ _ _ _)
      | (with_reducible exact LeO.refl _)
      | (with_reducible exact LeO.none _)
      | (with_reducible refine LeO.ite ?_ ?_)
      | (with_reducible refine LeO.bind ?_ (fun _ => ?_))
      | exact ih0 _ _ _
      | exact ih1 _ _ _ _
      | exact LeO.none _
      | refine LeO.ite ?_ ?_
      | refine LeO.bind ?_ (fun _ => ?_)
theorem screeref1_below.mono : ∀ a0 a1 k, LeO (screeref1_below.f k a0 a1) (screeref1_below.f (k + 1) a0 a1) := by
  intro a0 a1 k
  obtain ⟨ih0, ih1⟩ := screeref1_below.mono_l k
  unfold screeref1_below.f
  repeat' first
      | (with_reducible exact ih0 _ _ _)
      | (with_reducible exact ih1 _ _ _ _)
      | (with_reducible exact LeO.refl _)
      | (with_reducible exact LeO.none _)
      | (with_reducible refine LeO.ite ?_ ?_)
      | (with_reducible refine LeO.bind ?_ (fun _ => ?_))
      | exact ih0 _ _ _
      | exact ih1 _ _ _ _
      | exact LeO.none _
      | refine LeO.ite ?_ ?_
      | refine LeO.bind ?_ (fun _ => ?_)
set_option maxHeartbeats 8000000 in
set_option maxRecDepth 100000 in
theorem screeref1_below.calls (k : Nat) (a0 : ByteArray) (a1 : ByteArray) (r : Bool) (w : World) (h : screeref1_below.f k a0 a1 = some r) :
    Calls Tryd.prog 84 #[.string a0, .string a1] w fun e w' => e = .returned (.bool r) ∧ Drawn0 w w' := by
  have H : (screeref1_below.l0 k a0 a1 0) = some r := h
  clear h
  have H' := Aside0.mk H
  clear H
  go_enter Tryd.func84, Tryd.ntmps84
  go_wp2
  repeat (go_quiet (fail); try go_wp2)
  go_loopg [5] k (fun kq v5 w' => ∃ (x5_1 : Int), v5 = .int .i64 x5_1 ∧ Aside0 (screeref1_below.l0 kq a0 a1 x5_1 = some r) ∧ Aside0 (kq ≤ k) ∧ Drawn0 w w')
  case atStart => exact ⟨(0), (by first | rfl | (simp; done) | (simp [*]; done)), H', ⟨Nat.le_refl _⟩, by repeat (first | exact Drawn0.refl _ | apply Drawn0.step)⟩
  case round =>
    clear H'
    try clear p2
    obtain ⟨x5_1, rfl, HA, HK1, ⟨m1, rfl⟩⟩ := hrel
    cases gk with
    | zero => exact absurd HA.out (by simp [screeref1_below.l0])
    | succ k1 =>
      have H := HA.out
      clear HA
      simp only [screeref1_below.l0] at H
      have HC3 := Aside0.mk H
      clear H
      go_upto_region 2 with (fail)
      repeat (go_quiet (fail); go_upto_region 2 with (fail))
      (try (obtain ⟨tb1_, hTB1_⟩ : ∃ tb_ : Bool, (decide (x5_1 < (a0.size : Int))) = tb_ := ⟨_, rfl⟩; simp only [hTB1_]; have TB1_ := Aside0.mk hTB1_; clear hTB1_))
      go_cut [15] (fun v15 wc => ∃ (kq : Nat) (x15_2 : Bool), v15 = .bool x15_2 ∧ Aside0 (screeref1_below.j1 kq a0 a1 x5_1 x15_2 = some r) ∧ Aside0 (kq ≤ k1) ∧ Drawn0 w wc)
      case first =>
        have H := HC3.out
        clear HC3
        by_cases c4 : x5_1 < (a0.size : Int)
        · rw [if_pos c4] at H
          have c4b0 : decide (x5_1 < (a0.size : Int)) = true := decide_eq_true c4
          (try (obtain rfl := TB1_.out.symm.trans c4b0))
          clear c4
          (first | rw [c4b0] | (simp only [i64_w, i32_w]; rw [c4b0]) | skip)
          have H' := Aside0.mk H
          clear H
          go_wp2
          repeat (go_quiet (fail); try go_wp2)
          go_meet
          case rel => exact ⟨_, (decide (x5_1 < (a1.size : Int))), (by first | rfl | (simp; done) | (simp [*]; done)), H', ⟨by have := HK1.out; first | omega | exact Nat.le_refl _⟩, by repeat (first | exact Drawn0.refl _ | apply Drawn0.step)⟩
        · rw [if_neg c4] at H
          have c4b0 : decide (x5_1 < (a0.size : Int)) = false := decide_eq_false c4
          (try (obtain rfl := TB1_.out.symm.trans c4b0))
          clear c4
          (first | rw [c4b0] | (simp only [i64_w, i32_w]; rw [c4b0]) | skip)
          have H' := Aside0.mk H
          clear H
          go_wp2
          repeat (go_quiet (fail); try go_wp2)
          go_meet
          case rel => exact ⟨_, (false), (by first | rfl | (simp; done) | (simp [*]; done)), H', ⟨by have := HK1.out; first | omega | exact Nat.le_refl _⟩, by repeat (first | exact Drawn0.refl _ | apply Drawn0.step)⟩
      case rest =>
        clear HC3
        try clear p2
        try clear c4
        try clear c4b0
        try clear p2
        obtain ⟨kq, x15_2, rfl, HA, HJ2, ⟨mc2, rfl⟩⟩ := hcut
        cases kq with
        | zero => exact absurd HA.out (by simp [screeref1_below.j1])
        | succ kj2 =>
          have H := HA.out
          clear HA
          simp only [screeref1_below.j1] at H
          by_cases c5 : x15_2 = true
          · subst c5
            have H1 : (if 0 ≤ x5_1 then (if x5_1 < (a0.size : Int) then (if x5_1 < (a1.size : Int) then (if (bt a0 x5_1) = (bt a1 x5_1) then (screeref1_below.l0 kj2 a0 a1 (wrap64 (x5_1 + 1))) else (some (decide ((bt a0 x5_1) < (bt a1 x5_1))))) else (none)) else (none)) else (none)) = some r := by rw [if_pos rfl] at H; exact H
            clear H
            have H := H1
            clear H1
            by_cases c6 : 0 ≤ x5_1
            · rw [if_pos c6] at H
              have c6b0 : decide (0 ≤ x5_1) = true := decide_eq_true c6
              clear c6
              by_cases c7 : x5_1 < (a0.size : Int)
              · rw [if_pos c7] at H
                have c7b0 : decide (x5_1 < (a0.size : Int)) = true := decide_eq_true c7
                clear c7
                by_cases c9 : x5_1 < (a1.size : Int)
                · rw [if_pos c9] at H
                  have c9b0 : decide (x5_1 < (a1.size : Int)) = true := decide_eq_true c9
                  clear c9
                  by_cases c11 : (bt a0 x5_1) = (bt a1 x5_1)
                  · rw [if_pos c11] at H
                    have c11b0 : ((bt a0 x5_1) == (bt a1 x5_1)) = true := beq_iff_eq.mpr c11
                    have c11b1 : ((bt a0 x5_1) != (bt a1 x5_1)) = false := bne_eq_false_iff_eq.mpr c11
                    clear c11
                    have H' := Aside0.mk H
                    clear H
                    have p8 : 0 ≤ (x5_1 : Int) := of_decide_eq_true (by first | (with_reducible assumption) | assumption)
                    have q8 : x5_1 < (a0.size : Int) := of_decide_eq_true (by first | (with_reducible assumption) | assumption)
                    have hx8 := bt_at a0 x5_1
                    replace p8 := eq_true p8
                    replace q8 := eq_true q8
                    have p10 : 0 ≤ (x5_1 : Int) := of_decide_eq_true (by first | (with_reducible assumption) | assumption)
                    have q10 : x5_1 < (a1.size : Int) := of_decide_eq_true (by first | (with_reducible assumption) | assumption)
                    have hx10 := bt_at a1 x5_1
                    replace p10 := eq_true p10
                    replace q10 := eq_true q10
                    go_wp2
                    repeat (go_quiet (fail); try go_wp2)
                    go_roundg kj2
                    case measure => have := HK1.out; have := HJ2.out; omega
                    case rel => exact ⟨(wrap64 (x5_1 + 1)), (by first | rfl | (simp; done) | (simp [*]; done)), H', ⟨by have := HK1.out; have := HJ2.out; omega⟩, by repeat (first | exact Drawn0.refl _ | apply Drawn0.step)⟩
                  · rw [if_neg c11] at H
                    have c11b0 : ((bt a0 x5_1) == (bt a1 x5_1)) = false := beq_eq_false_iff_ne.mpr c11
                    have c11b1 : ((bt a0 x5_1) != (bt a1 x5_1)) = true := bne_iff_ne.mpr c11
                    obtain rfl := Option.some.inj H
                    have p8 : 0 ≤ (x5_1 : Int) := of_decide_eq_true (by first | (with_reducible assumption) | assumption)
                    have q8 : x5_1 < (a0.size : Int) := of_decide_eq_true (by first | (with_reducible assumption) | assumption)
                    have hx8 := bt_at a0 x5_1
                    replace p8 := eq_true p8
                    replace q8 := eq_true q8
                    have p10 : 0 ≤ (x5_1 : Int) := of_decide_eq_true (by first | (with_reducible assumption) | assumption)
                    have q10 : x5_1 < (a1.size : Int) := of_decide_eq_true (by first | (with_reducible assumption) | assumption)
                    have hx10 := bt_at a1 x5_1
                    replace p10 := eq_true p10
                    replace q10 := eq_true q10
                    have p12 : 0 ≤ (x5_1 : Int) := of_decide_eq_true (by first | (with_reducible assumption) | assumption)
                    have q12 : x5_1 < (a0.size : Int) := of_decide_eq_true (by first | (with_reducible assumption) | assumption)
                    have hx12 := bt_at a0 x5_1
                    replace p12 := eq_true p12
                    replace q12 := eq_true q12
                    have p13 : 0 ≤ (x5_1 : Int) := of_decide_eq_true (by first | (with_reducible assumption) | assumption)
                    have q13 : x5_1 < (a1.size : Int) := of_decide_eq_true (by first | (with_reducible assumption) | assumption)
                    have hx13 := bt_at a1 x5_1
                    replace p13 := eq_true p13
                    replace q13 := eq_true q13
                    go_wp2
                    repeat (go_quiet (fail); try go_wp2)
                    go_ret
                    exact ⟨by first | rfl | (simp; done) | (simp [*]; done), by repeat (first | exact Drawn0.refl _ | apply Drawn0.step)⟩
                · rw [if_neg c9] at H
                  exact absurd H (by simp)
              · rw [if_neg c7] at H
                exact absurd H (by simp)
            · rw [if_neg c6] at H
              exact absurd H (by simp)
          · replace c5 := Bool.eq_false_iff.mpr c5
            subst c5
            have H1 : (some (decide ((a0.size : Int) < (a1.size : Int)))) = some r := by rw [if_neg (show ¬ (false = true) by decide)] at H; exact H
            clear H
            have H := H1
            clear H1
            obtain rfl := Option.some.inj H
            go_wp2
            repeat (go_quiet (fail); try go_wp2)
            go_ret
            exact ⟨by first | rfl | (simp; done) | (simp [*]; done), by repeat (first | exact Drawn0.refl _ | apply Drawn0.step)⟩

/-! ### screeref1_Compare: function 66 -/
def screeref1_Compare.f (k : Nat) (a0_0 : ByteArray) (a0_1 : Int) (a0_2 : Bool) (a0_3 : ByteArray) (a1_0 : ByteArray) (a1_1 : Int) (a1_2 : Bool) (a1_3 : ByteArray) : Option (Int) := (screeref1_below.f k a0_0 a1_0).bind fun t164 => (if t164 = true then (some (-1)) else ((screeref1_below.f k a1_0 a0_0).bind fun t165 => (if t165 = true then (some 1) else (if a0_1 > a1_1 then (some (-1)) else (if a0_1 < a1_1 then (some 1) else (some 0))))))
theorem screeref1_Compare.mono : ∀ a0 a1 a2 a3 a4 a5 a6 a7 k, LeO (screeref1_Compare.f k a0 a1 a2 a3 a4 a5 a6 a7) (screeref1_Compare.f (k + 1) a0 a1 a2 a3 a4 a5 a6 a7) := by
  intro a0 a1 a2 a3 a4 a5 a6 a7 k
  unfold screeref1_Compare.f
  repeat' first
      | (with_reducible exact screeref1_below.mono _ _ _)
      | (with_reducible exact LeO.refl _)
      | (with_reducible exact LeO.none _)
      | (with_reducible refine LeO.ite ?_ ?_)
      | (with_reducible refine LeO.bind ?_ (fun _ => ?_))
      | exact screeref1_below.mono _ _ _
      | exact LeO.none _
      | refine LeO.ite ?_ ?_
      | refine LeO.bind ?_ (fun _ => ?_)
set_option maxHeartbeats 8000000 in
set_option maxRecDepth 100000 in
theorem screeref1_Compare.calls (k : Nat) (a0_0 : ByteArray) (a0_1 : Int) (a0_2 : Bool) (a0_3 : ByteArray) (a1_0 : ByteArray) (a1_1 : Int) (a1_2 : Bool) (a1_3 : ByteArray) (r : Int) (w : World) (h : screeref1_Compare.f k a0_0 a0_1 a0_2 a0_3 a1_0 a1_1 a1_2 a1_3 = some r) :
    Calls Tryd.prog 66 #[.agg #[.string a0_0, .int .u64 a0_1, .bool a0_2, .string a0_3], .agg #[.string a1_0, .int .u64 a1_1, .bool a1_2, .string a1_3]] w fun e w' => e = .returned (.int .i64 r) ∧ Below w.heap.size w w' := by
  have hu30 := Tryd.underlying30
  have HB := Aside0.mk (Below.refl w.heap.size w)
  have H : ((screeref1_below.f k a0_0 a1_0).bind fun t164 => (if t164 = true then (some (-1)) else ((screeref1_below.f k a1_0 a0_0).bind fun t165 => (if t165 = true then (some 1) else (if a0_1 > a1_1 then (some (-1)) else (if a0_1 < a1_1 then (some 1) else (some 0))))))) = some r := h
  clear h
  replace H := Option.bind_eq_some_iff.mp H
  obtain ⟨t164, A30, H⟩ := H
  replace H : (if t164 = true then (some (-1)) else ((screeref1_below.f k a1_0 a0_0).bind fun t165 => (if t165 = true then (some 1) else (if a0_1 > a1_1 then (some (-1)) else (if a0_1 < a1_1 then (some 1) else (some 0)))))) = some r := H
  have A3 := Aside0.mk A30
  clear A30
  by_cases c4 : t164 = true
  · subst c4
    have H1 : (some (-1)) = some r := by rw [if_pos rfl] at H; exact H
    clear H
    have H := H1
    clear H1
    obtain rfl := Option.some.inj H
    go_enter Tryd.func66, Tryd.ntmps66
    go_wp2_with (first | ((with_reducible refine gate_dst (N := 2) rfl ?_); refine box_event ?hg (N := 2) ?hd (cs := #[.string a0_0, .int .u64 a0_1, .bool a0_2, .string a0_3]) (t := 30) ?hr ?_; (case hd => rfl); (case hg => rfl); (case hr => first | (go_simp; done) | (go_simp; rfl)); intro gb162 hg w5 hbox hb; have n0_ := Aside0.mk (below_step (by repeat (first | (with_reducible first | exact HB.out | apply below_alloc | apply pw_below_drewN | apply below_drew1) | exact HB.out)) hb); have n1_ := Aside0.mk (hbox); have n2_ := Aside0.mk ((by rw [hg]; exact (below_size (by repeat (first | (with_reducible first | exact HB.out | apply below_alloc | apply pw_below_drewN | apply below_drew1) | exact HB.out))) : w.heap.size ≤ gb162)); have n3_ := Aside0.mk ((by rw [hg]; exact (below_size (by repeat (first | (with_reducible first | exact HB.out | apply below_alloc | apply pw_below_drewN | apply below_drew1) | exact HB.out))) : w.heap.size ≤ gb162)); clear HB; have HB := n0_; have BK162 := n1_; have GW162 := n2_; have GE162 := n3_; clear n0_ n1_ n2_ n3_; clear hb hbox hg) | ((with_reducible refine gate_dst (N := 3) rfl ?_); refine box_event ?hg (N := 3) ?hd (cs := #[.string a1_0, .int .u64 a1_1, .bool a1_2, .string a1_3]) (t := 30) ?hr ?_; (case hd => rfl); (case hg => rfl); (case hr => first | (go_simp; done) | (go_simp; rfl)); intro gb163 hg w6 hbox hb; have n0_ := Aside0.mk (blk_below (g := gb162) (o := .cells #[.string a0_0, .int .u64 a0_1, .bool a0_2, .string a0_3] 30 (0, 0)) (by (with_reducible repeat (first | refine blk_drewN ?_ _ | refine blk_drew ?_ | refine blk_alloc ?_ _)); exact BK162.out) hb); have n1_ := Aside0.mk (below_step (by repeat (first | (with_reducible first | exact HB.out | apply below_alloc | apply pw_below_drewN | apply below_drew1 | refine below_set ?_ GE162.out) | exact HB.out)) hb); have n2_ := Aside0.mk (hbox); have n3_ := Aside0.mk ((by rw [hg]; exact (below_size (by repeat (first | (with_reducible first | exact HB.out | apply below_alloc | apply pw_below_drewN | apply below_drew1 | refine below_set ?_ GE162.out) | exact HB.out))) : w.heap.size ≤ gb163)); have n4_ := Aside0.mk ((by rw [hg]; exact (below_size (by repeat (first | (with_reducible first | exact HB.out | apply below_alloc | apply pw_below_drewN | apply below_drew1 | refine below_set ?_ GE162.out) | exact HB.out))) : w.heap.size ≤ gb163)); have n5_ := Aside0.mk ((by rw [hg]; exact Nat.ne_of_lt (blk_lt (g := gb162) (o := .cells #[.string a0_0, .int .u64 a0_1, .bool a0_2, .string a0_3] 30 (0, 0)) (by (with_reducible repeat (first | refine blk_drewN ?_ _ | refine blk_drew ?_ | refine blk_alloc ?_ _)); exact BK162.out)) : gb162 ≠ gb163)); have n6_ := Aside0.mk ((by rw [hg]; exact Nat.ne_of_gt (blk_lt (g := gb162) (o := .cells #[.string a0_0, .int .u64 a0_1, .bool a0_2, .string a0_3] 30 (0, 0)) (by (with_reducible repeat (first | refine blk_drewN ?_ _ | refine blk_drew ?_ | refine blk_alloc ?_ _)); exact BK162.out)) : gb163 ≠ gb162)); clear BK162; clear HB; have BK162 := n0_; have HB := n1_; have BK163 := n2_; have GW163 := n3_; have GE163 := n4_; have NB162_163 := n5_; have NB163_162 := n6_; clear n0_ n1_ n2_ n3_ n4_ n5_ n6_; clear hb hbox hg; have hnb7 := NB162_163.out; have hnc7 := NB163_162.out; have hcz8_0 : w6.cell? ⟨gb162, 0, none⟩ = some (.string a0_0) := (blk_cell BK162.out 0).trans rfl; have hcz8_1 : w6.cell? ⟨gb162, 1, none⟩ = some (.int .u64 a0_1) := (blk_cell BK162.out 1).trans rfl; have hcz8_2 : w6.cell? ⟨gb162, 2, none⟩ = some (.bool a0_2) := (blk_cell BK162.out 2).trans rfl; have hcz8_3 : w6.cell? ⟨gb162, 3, none⟩ = some (.string a0_3) := (blk_cell BK162.out 3).trans rfl; have hfz8_0 := blk_frozen BK162.out 0; have hfz8_1 := blk_frozen BK162.out 1; have hfz8_2 := blk_frozen BK162.out 2; have hfz8_3 := blk_frozen BK162.out 3; have hcz9_0 : w6.cell? ⟨gb163, 0, none⟩ = some (.string a1_0) := (blk_cell BK163.out 0).trans rfl; have hcz9_1 : w6.cell? ⟨gb163, 1, none⟩ = some (.int .u64 a1_1) := (blk_cell BK163.out 1).trans rfl; have hcz9_2 : w6.cell? ⟨gb163, 2, none⟩ = some (.bool a1_2) := (blk_cell BK163.out 2).trans rfl; have hcz9_3 : w6.cell? ⟨gb163, 3, none⟩ = some (.string a1_3) := (blk_cell BK163.out 3).trans rfl; have hfz9_0 := blk_frozen BK163.out 0; have hfz9_1 := blk_frozen BK163.out 1; have hfz9_2 := blk_frozen BK163.out 2; have hfz9_3 := blk_frozen BK163.out 3) | ((with_reducible refine gate_callee (f := 84) rfl ?_); refine goesL_ (some 9) rfl rfl Tryd.func84 (by kernel_rfl) rfl #[.string a0_0, .string a1_0] rfl (by (try simp only [List.map_toArray, List.map_cons, List.map_nil]); first | done | rfl | (simp only [List.length_drop, List.length_take]; rfl)) ?_; (with_reducible refine (screeref1_below.calls k a0_0 a1_0 true _ A3.out).mono ?_); rintro e w' ⟨rfl, ⟨nd, rfl⟩⟩; refine ⟨_, rfl, ?_⟩))
    go_ret
    exact ⟨by first | rfl | (simp [errW_none, errW_some] <;> rfl) | (simp [*, errW_none, errW_some] <;> rfl), by repeat (first | (with_reducible first | exact HB.out | apply below_alloc | apply pw_below_drewN | apply below_drew1 | refine below_set ?_ GE162.out | refine below_set ?_ GE163.out) | exact HB.out)⟩
  · replace c4 := Bool.eq_false_iff.mpr c4
    subst c4
    have H1 : ((screeref1_below.f k a1_0 a0_0).bind fun t165 => (if t165 = true then (some 1) else (if a0_1 > a1_1 then (some (-1)) else (if a0_1 < a1_1 then (some 1) else (some 0))))) = some r := by rw [if_neg (show ¬ (false = true) by decide)] at H; exact H
    clear H
    have H := H1
    clear H1
    replace H := Option.bind_eq_some_iff.mp H
    obtain ⟨t165, A100, H⟩ := H
    replace H : (if t165 = true then (some 1) else (if a0_1 > a1_1 then (some (-1)) else (if a0_1 < a1_1 then (some 1) else (some 0)))) = some r := H
    have A10 := Aside0.mk A100
    clear A100
    by_cases c11 : t165 = true
    · subst c11
      have H1 : (some 1) = some r := by rw [if_pos rfl] at H; exact H
      clear H
      have H := H1
      clear H1
      obtain rfl := Option.some.inj H
      go_enter Tryd.func66, Tryd.ntmps66
      go_wp2_with (first | ((with_reducible refine gate_dst (N := 2) rfl ?_); refine box_event ?hg (N := 2) ?hd (cs := #[.string a0_0, .int .u64 a0_1, .bool a0_2, .string a0_3]) (t := 30) ?hr ?_; (case hd => rfl); (case hg => rfl); (case hr => first | (go_simp; done) | (go_simp; rfl)); intro gb162 hg w12 hbox hb; have n0_ := Aside0.mk (below_step (by repeat (first | (with_reducible first | exact HB.out | apply below_alloc | apply pw_below_drewN | apply below_drew1) | exact HB.out)) hb); have n1_ := Aside0.mk (hbox); have n2_ := Aside0.mk ((by rw [hg]; exact (below_size (by repeat (first | (with_reducible first | exact HB.out | apply below_alloc | apply pw_below_drewN | apply below_drew1) | exact HB.out))) : w.heap.size ≤ gb162)); have n3_ := Aside0.mk ((by rw [hg]; exact (below_size (by repeat (first | (with_reducible first | exact HB.out | apply below_alloc | apply pw_below_drewN | apply below_drew1) | exact HB.out))) : w.heap.size ≤ gb162)); clear HB; have HB := n0_; have BK162 := n1_; have GW162 := n2_; have GE162 := n3_; clear n0_ n1_ n2_ n3_; clear hb hbox hg) | ((with_reducible refine gate_dst (N := 3) rfl ?_); refine box_event ?hg (N := 3) ?hd (cs := #[.string a1_0, .int .u64 a1_1, .bool a1_2, .string a1_3]) (t := 30) ?hr ?_; (case hd => rfl); (case hg => rfl); (case hr => first | (go_simp; done) | (go_simp; rfl)); intro gb163 hg w13 hbox hb; have n0_ := Aside0.mk (blk_below (g := gb162) (o := .cells #[.string a0_0, .int .u64 a0_1, .bool a0_2, .string a0_3] 30 (0, 0)) (by (with_reducible repeat (first | refine blk_drewN ?_ _ | refine blk_drew ?_ | refine blk_alloc ?_ _)); exact BK162.out) hb); have n1_ := Aside0.mk (below_step (by repeat (first | (with_reducible first | exact HB.out | apply below_alloc | apply pw_below_drewN | apply below_drew1 | refine below_set ?_ GE162.out) | exact HB.out)) hb); have n2_ := Aside0.mk (hbox); have n3_ := Aside0.mk ((by rw [hg]; exact (below_size (by repeat (first | (with_reducible first | exact HB.out | apply below_alloc | apply pw_below_drewN | apply below_drew1 | refine below_set ?_ GE162.out) | exact HB.out))) : w.heap.size ≤ gb163)); have n4_ := Aside0.mk ((by rw [hg]; exact (below_size (by repeat (first | (with_reducible first | exact HB.out | apply below_alloc | apply pw_below_drewN | apply below_drew1 | refine below_set ?_ GE162.out) | exact HB.out))) : w.heap.size ≤ gb163)); have n5_ := Aside0.mk ((by rw [hg]; exact Nat.ne_of_lt (blk_lt (g := gb162) (o := .cells #[.string a0_0, .int .u64 a0_1, .bool a0_2, .string a0_3] 30 (0, 0)) (by (with_reducible repeat (first | refine blk_drewN ?_ _ | refine blk_drew ?_ | refine blk_alloc ?_ _)); exact BK162.out)) : gb162 ≠ gb163)); have n6_ := Aside0.mk ((by rw [hg]; exact Nat.ne_of_gt (blk_lt (g := gb162) (o := .cells #[.string a0_0, .int .u64 a0_1, .bool a0_2, .string a0_3] 30 (0, 0)) (by (with_reducible repeat (first | refine blk_drewN ?_ _ | refine blk_drew ?_ | refine blk_alloc ?_ _)); exact BK162.out)) : gb163 ≠ gb162)); clear BK162; clear HB; have BK162 := n0_; have HB := n1_; have BK163 := n2_; have GW163 := n3_; have GE163 := n4_; have NB162_163 := n5_; have NB163_162 := n6_; clear n0_ n1_ n2_ n3_ n4_ n5_ n6_; clear hb hbox hg; have hnb14 := NB162_163.out; have hnc14 := NB163_162.out; have hcz15_0 : w13.cell? ⟨gb162, 0, none⟩ = some (.string a0_0) := (blk_cell BK162.out 0).trans rfl; have hcz15_1 : w13.cell? ⟨gb162, 1, none⟩ = some (.int .u64 a0_1) := (blk_cell BK162.out 1).trans rfl; have hcz15_2 : w13.cell? ⟨gb162, 2, none⟩ = some (.bool a0_2) := (blk_cell BK162.out 2).trans rfl; have hcz15_3 : w13.cell? ⟨gb162, 3, none⟩ = some (.string a0_3) := (blk_cell BK162.out 3).trans rfl; have hfz15_0 := blk_frozen BK162.out 0; have hfz15_1 := blk_frozen BK162.out 1; have hfz15_2 := blk_frozen BK162.out 2; have hfz15_3 := blk_frozen BK162.out 3; have hcz16_0 : w13.cell? ⟨gb163, 0, none⟩ = some (.string a1_0) := (blk_cell BK163.out 0).trans rfl; have hcz16_1 : w13.cell? ⟨gb163, 1, none⟩ = some (.int .u64 a1_1) := (blk_cell BK163.out 1).trans rfl; have hcz16_2 : w13.cell? ⟨gb163, 2, none⟩ = some (.bool a1_2) := (blk_cell BK163.out 2).trans rfl; have hcz16_3 : w13.cell? ⟨gb163, 3, none⟩ = some (.string a1_3) := (blk_cell BK163.out 3).trans rfl; have hfz16_0 := blk_frozen BK163.out 0; have hfz16_1 := blk_frozen BK163.out 1; have hfz16_2 := blk_frozen BK163.out 2; have hfz16_3 := blk_frozen BK163.out 3) | ((with_reducible refine gate_callee (f := 84) rfl ?_); refine goesL_ (some 9) rfl rfl Tryd.func84 (by kernel_rfl) rfl #[.string a0_0, .string a1_0] rfl (by (try simp only [List.map_toArray, List.map_cons, List.map_nil]); first | done | rfl | (simp only [List.length_drop, List.length_take]; rfl)) ?_; (with_reducible refine (screeref1_below.calls k a0_0 a1_0 false _ A3.out).mono ?_); rintro e w' ⟨rfl, ⟨nd, rfl⟩⟩; refine ⟨_, rfl, ?_⟩) | ((with_reducible refine gate_callee (f := 84) rfl ?_); refine goesL_ (some 14) rfl rfl Tryd.func84 (by kernel_rfl) rfl #[.string a1_0, .string a0_0] rfl (by (try simp only [List.map_toArray, List.map_cons, List.map_nil]); first | done | rfl | (simp only [List.length_drop, List.length_take]; rfl)) ?_; (with_reducible refine (screeref1_below.calls k a1_0 a0_0 true _ A10.out).mono ?_); rintro e w' ⟨rfl, ⟨nd, rfl⟩⟩; refine ⟨_, rfl, ?_⟩))
      go_ret
      exact ⟨by first | rfl | (simp [errW_none, errW_some] <;> rfl) | (simp [*, errW_none, errW_some] <;> rfl), by repeat (first | (with_reducible first | exact HB.out | apply below_alloc | apply pw_below_drewN | apply below_drew1 | refine below_set ?_ GE162.out | refine below_set ?_ GE163.out) | exact HB.out)⟩
    · replace c11 := Bool.eq_false_iff.mpr c11
      subst c11
      have H1 : (if a0_1 > a1_1 then (some (-1)) else (if a0_1 < a1_1 then (some 1) else (some 0))) = some r := by rw [if_neg (show ¬ (false = true) by decide)] at H; exact H
      clear H
      have H := H1
      clear H1
      by_cases c17 : a0_1 > a1_1
      · rw [if_pos c17] at H
        have c17b0 : decide (a1_1 < a0_1) = true := decide_eq_true c17
        clear c17
        obtain rfl := Option.some.inj H
        go_enter Tryd.func66, Tryd.ntmps66
        go_wp2_with (first | ((with_reducible refine gate_dst (N := 2) rfl ?_); refine box_event ?hg (N := 2) ?hd (cs := #[.string a0_0, .int .u64 a0_1, .bool a0_2, .string a0_3]) (t := 30) ?hr ?_; (case hd => rfl); (case hg => rfl); (case hr => first | (go_simp; done) | (go_simp; rfl)); intro gb162 hg w18 hbox hb; have n0_ := Aside0.mk (below_step (by repeat (first | (with_reducible first | exact HB.out | apply below_alloc | apply pw_below_drewN | apply below_drew1) | exact HB.out)) hb); have n1_ := Aside0.mk (hbox); have n2_ := Aside0.mk ((by rw [hg]; exact (below_size (by repeat (first | (with_reducible first | exact HB.out | apply below_alloc | apply pw_below_drewN | apply below_drew1) | exact HB.out))) : w.heap.size ≤ gb162)); have n3_ := Aside0.mk ((by rw [hg]; exact (below_size (by repeat (first | (with_reducible first | exact HB.out | apply below_alloc | apply pw_below_drewN | apply below_drew1) | exact HB.out))) : w.heap.size ≤ gb162)); clear HB; have HB := n0_; have BK162 := n1_; have GW162 := n2_; have GE162 := n3_; clear n0_ n1_ n2_ n3_; clear hb hbox hg) | ((with_reducible refine gate_dst (N := 3) rfl ?_); refine box_event ?hg (N := 3) ?hd (cs := #[.string a1_0, .int .u64 a1_1, .bool a1_2, .string a1_3]) (t := 30) ?hr ?_; (case hd => rfl); (case hg => rfl); (case hr => first | (go_simp; done) | (go_simp; rfl)); intro gb163 hg w19 hbox hb; have n0_ := Aside0.mk (blk_below (g := gb162) (o := .cells #[.string a0_0, .int .u64 a0_1, .bool a0_2, .string a0_3] 30 (0, 0)) (by (with_reducible repeat (first | refine blk_drewN ?_ _ | refine blk_drew ?_ | refine blk_alloc ?_ _)); exact BK162.out) hb); have n1_ := Aside0.mk (below_step (by repeat (first | (with_reducible first | exact HB.out | apply below_alloc | apply pw_below_drewN | apply below_drew1 | refine below_set ?_ GE162.out) | exact HB.out)) hb); have n2_ := Aside0.mk (hbox); have n3_ := Aside0.mk ((by rw [hg]; exact (below_size (by repeat (first | (with_reducible first | exact HB.out | apply below_alloc | apply pw_below_drewN | apply below_drew1 | refine below_set ?_ GE162.out) | exact HB.out))) : w.heap.size ≤ gb163)); have n4_ := Aside0.mk ((by rw [hg]; exact (below_size (by repeat (first | (with_reducible first | exact HB.out | apply below_alloc | apply pw_below_drewN | apply below_drew1 | refine below_set ?_ GE162.out) | exact HB.out))) : w.heap.size ≤ gb163)); have n5_ := Aside0.mk ((by rw [hg]; exact Nat.ne_of_lt (blk_lt (g := gb162) (o := .cells #[.string a0_0, .int .u64 a0_1, .bool a0_2, .string a0_3] 30 (0, 0)) (by (with_reducible repeat (first | refine blk_drewN ?_ _ | refine blk_drew ?_ | refine blk_alloc ?_ _)); exact BK162.out)) : gb162 ≠ gb163)); have n6_ := Aside0.mk ((by rw [hg]; exact Nat.ne_of_gt (blk_lt (g := gb162) (o := .cells #[.string a0_0, .int .u64 a0_1, .bool a0_2, .string a0_3] 30 (0, 0)) (by (with_reducible repeat (first | refine blk_drewN ?_ _ | refine blk_drew ?_ | refine blk_alloc ?_ _)); exact BK162.out)) : gb163 ≠ gb162)); clear BK162; clear HB; have BK162 := n0_; have HB := n1_; have BK163 := n2_; have GW163 := n3_; have GE163 := n4_; have NB162_163 := n5_; have NB163_162 := n6_; clear n0_ n1_ n2_ n3_ n4_ n5_ n6_; clear hb hbox hg; have hnb20 := NB162_163.out; have hnc20 := NB163_162.out; have hcz21_0 : w19.cell? ⟨gb162, 0, none⟩ = some (.string a0_0) := (blk_cell BK162.out 0).trans rfl; have hcz21_1 : w19.cell? ⟨gb162, 1, none⟩ = some (.int .u64 a0_1) := (blk_cell BK162.out 1).trans rfl; have hcz21_2 : w19.cell? ⟨gb162, 2, none⟩ = some (.bool a0_2) := (blk_cell BK162.out 2).trans rfl; have hcz21_3 : w19.cell? ⟨gb162, 3, none⟩ = some (.string a0_3) := (blk_cell BK162.out 3).trans rfl; have hfz21_0 := blk_frozen BK162.out 0; have hfz21_1 := blk_frozen BK162.out 1; have hfz21_2 := blk_frozen BK162.out 2; have hfz21_3 := blk_frozen BK162.out 3; have hcz22_0 : w19.cell? ⟨gb163, 0, none⟩ = some (.string a1_0) := (blk_cell BK163.out 0).trans rfl; have hcz22_1 : w19.cell? ⟨gb163, 1, none⟩ = some (.int .u64 a1_1) := (blk_cell BK163.out 1).trans rfl; have hcz22_2 : w19.cell? ⟨gb163, 2, none⟩ = some (.bool a1_2) := (blk_cell BK163.out 2).trans rfl; have hcz22_3 : w19.cell? ⟨gb163, 3, none⟩ = some (.string a1_3) := (blk_cell BK163.out 3).trans rfl; have hfz22_0 := blk_frozen BK163.out 0; have hfz22_1 := blk_frozen BK163.out 1; have hfz22_2 := blk_frozen BK163.out 2; have hfz22_3 := blk_frozen BK163.out 3) | ((with_reducible refine gate_callee (f := 84) rfl ?_); refine goesL_ (some 9) rfl rfl Tryd.func84 (by kernel_rfl) rfl #[.string a0_0, .string a1_0] rfl (by (try simp only [List.map_toArray, List.map_cons, List.map_nil]); first | done | rfl | (simp only [List.length_drop, List.length_take]; rfl)) ?_; (with_reducible refine (screeref1_below.calls k a0_0 a1_0 false _ A3.out).mono ?_); rintro e w' ⟨rfl, ⟨nd, rfl⟩⟩; refine ⟨_, rfl, ?_⟩) | ((with_reducible refine gate_callee (f := 84) rfl ?_); refine goesL_ (some 14) rfl rfl Tryd.func84 (by kernel_rfl) rfl #[.string a1_0, .string a0_0] rfl (by (try simp only [List.map_toArray, List.map_cons, List.map_nil]); first | done | rfl | (simp only [List.length_drop, List.length_take]; rfl)) ?_; (with_reducible refine (screeref1_below.calls k a1_0 a0_0 false _ A10.out).mono ?_); rintro e w' ⟨rfl, ⟨nd, rfl⟩⟩; refine ⟨_, rfl, ?_⟩))
        go_ret
        exact ⟨by first | rfl | (simp [errW_none, errW_some] <;> rfl) | (simp [*, errW_none, errW_some] <;> rfl), by repeat (first | (with_reducible first | exact HB.out | apply below_alloc | apply pw_below_drewN | apply below_drew1 | refine below_set ?_ GE162.out | refine below_set ?_ GE163.out) | exact HB.out)⟩
      · rw [if_neg c17] at H
        have c17b0 : decide (a1_1 < a0_1) = false := decide_eq_false c17
        clear c17
        by_cases c23 : a0_1 < a1_1
        · rw [if_pos c23] at H
          have c23b0 : decide (a0_1 < a1_1) = true := decide_eq_true c23
          clear c23
          obtain rfl := Option.some.inj H
          go_enter Tryd.func66, Tryd.ntmps66
          go_wp2_with (first | ((with_reducible refine gate_dst (N := 2) rfl ?_); refine box_event ?hg (N := 2) ?hd (cs := #[.string a0_0, .int .u64 a0_1, .bool a0_2, .string a0_3]) (t := 30) ?hr ?_; (case hd => rfl); (case hg => rfl); (case hr => first | (go_simp; done) | (go_simp; rfl)); intro gb162 hg w24 hbox hb; have n0_ := Aside0.mk (below_step (by repeat (first | (with_reducible first | exact HB.out | apply below_alloc | apply pw_below_drewN | apply below_drew1) | exact HB.out)) hb); have n1_ := Aside0.mk (hbox); have n2_ := Aside0.mk ((by rw [hg]; exact (below_size (by repeat (first | (with_reducible first | exact HB.out | apply below_alloc | apply pw_below_drewN | apply below_drew1) | exact HB.out))) : w.heap.size ≤ gb162)); have n3_ := Aside0.mk ((by rw [hg]; exact (below_size (by repeat (first | (with_reducible first | exact HB.out | apply below_alloc | apply pw_below_drewN | apply below_drew1) | exact HB.out))) : w.heap.size ≤ gb162)); clear HB; have HB := n0_; have BK162 := n1_; have GW162 := n2_; have GE162 := n3_; clear n0_ n1_ n2_ n3_; clear hb hbox hg) | ((with_reducible refine gate_dst (N := 3) rfl ?_); refine box_event ?hg (N := 3) ?hd (cs := #[.string a1_0, .int .u64 a1_1, .bool a1_2, .string a1_3]) (t := 30) ?hr ?_; (case hd => rfl); (case hg => rfl); (case hr => first | (go_simp; done) | (go_simp; rfl)); intro gb163 hg w25 hbox hb; have n0_ := Aside0.mk (blk_below (g := gb162) (o := .cells #[.string a0_0, .int .u64 a0_1, .bool a0_2, .string a0_3] 30 (0, 0)) (by (with_reducible repeat (first | refine blk_drewN ?_ _ | refine blk_drew ?_ | refine blk_alloc ?_ _)); exact BK162.out) hb); have n1_ := Aside0.mk (below_step (by repeat (first | (with_reducible first | exact HB.out | apply below_alloc | apply pw_below_drewN | apply below_drew1 | refine below_set ?_ GE162.out) | exact HB.out)) hb); have n2_ := Aside0.mk (hbox); have n3_ := Aside0.mk ((by rw [hg]; exact (below_size (by repeat (first | (with_reducible first | exact HB.out | apply below_alloc | apply pw_below_drewN | apply below_drew1 | refine below_set ?_ GE162.out) | exact HB.out))) : w.heap.size ≤ gb163)); have n4_ := Aside0.mk ((by rw [hg]; exact (below_size (by repeat (first | (with_reducible first | exact HB.out | apply below_alloc | apply pw_below_drewN | apply below_drew1 | refine below_set ?_ GE162.out) | exact HB.out))) : w.heap.size ≤ gb163)); have n5_ := Aside0.mk ((by rw [hg]; exact Nat.ne_of_lt (blk_lt (g := gb162) (o := .cells #[.string a0_0, .int .u64 a0_1, .bool a0_2, .string a0_3] 30 (0, 0)) (by (with_reducible repeat (first | refine blk_drewN ?_ _ | refine blk_drew ?_ | refine blk_alloc ?_ _)); exact BK162.out)) : gb162 ≠ gb163)); have n6_ := Aside0.mk ((by rw [hg]; exact Nat.ne_of_gt (blk_lt (g := gb162) (o := .cells #[.string a0_0, .int .u64 a0_1, .bool a0_2, .string a0_3] 30 (0, 0)) (by (with_reducible repeat (first | refine blk_drewN ?_ _ | refine blk_drew ?_ | refine blk_alloc ?_ _)); exact BK162.out)) : gb163 ≠ gb162)); clear BK162; clear HB; have BK162 := n0_; have HB := n1_; have BK163 := n2_; have GW163 := n3_; have GE163 := n4_; have NB162_163 := n5_; have NB163_162 := n6_; clear n0_ n1_ n2_ n3_ n4_ n5_ n6_; clear hb hbox hg; have hnb26 := NB162_163.out; have hnc26 := NB163_162.out; have hcz27_0 : w25.cell? ⟨gb162, 0, none⟩ = some (.string a0_0) := (blk_cell BK162.out 0).trans rfl; have hcz27_1 : w25.cell? ⟨gb162, 1, none⟩ = some (.int .u64 a0_1) := (blk_cell BK162.out 1).trans rfl; have hcz27_2 : w25.cell? ⟨gb162, 2, none⟩ = some (.bool a0_2) := (blk_cell BK162.out 2).trans rfl; have hcz27_3 : w25.cell? ⟨gb162, 3, none⟩ = some (.string a0_3) := (blk_cell BK162.out 3).trans rfl; have hfz27_0 := blk_frozen BK162.out 0; have hfz27_1 := blk_frozen BK162.out 1; have hfz27_2 := blk_frozen BK162.out 2; have hfz27_3 := blk_frozen BK162.out 3; have hcz28_0 : w25.cell? ⟨gb163, 0, none⟩ = some (.string a1_0) := (blk_cell BK163.out 0).trans rfl; have hcz28_1 : w25.cell? ⟨gb163, 1, none⟩ = some (.int .u64 a1_1) := (blk_cell BK163.out 1).trans rfl; have hcz28_2 : w25.cell? ⟨gb163, 2, none⟩ = some (.bool a1_2) := (blk_cell BK163.out 2).trans rfl; have hcz28_3 : w25.cell? ⟨gb163, 3, none⟩ = some (.string a1_3) := (blk_cell BK163.out 3).trans rfl; have hfz28_0 := blk_frozen BK163.out 0; have hfz28_1 := blk_frozen BK163.out 1; have hfz28_2 := blk_frozen BK163.out 2; have hfz28_3 := blk_frozen BK163.out 3) | ((with_reducible refine gate_callee (f := 84) rfl ?_); refine goesL_ (some 9) rfl rfl Tryd.func84 (by kernel_rfl) rfl #[.string a0_0, .string a1_0] rfl (by (try simp only [List.map_toArray, List.map_cons, List.map_nil]); first | done | rfl | (simp only [List.length_drop, List.length_take]; rfl)) ?_; (with_reducible refine (screeref1_below.calls k a0_0 a1_0 false _ A3.out).mono ?_); rintro e w' ⟨rfl, ⟨nd, rfl⟩⟩; refine ⟨_, rfl, ?_⟩) | ((with_reducible refine gate_callee (f := 84) rfl ?_); refine goesL_ (some 14) rfl rfl Tryd.func84 (by kernel_rfl) rfl #[.string a1_0, .string a0_0] rfl (by (try simp only [List.map_toArray, List.map_cons, List.map_nil]); first | done | rfl | (simp only [List.length_drop, List.length_take]; rfl)) ?_; (with_reducible refine (screeref1_below.calls k a1_0 a0_0 false _ A10.out).mono ?_); rintro e w' ⟨rfl, ⟨nd, rfl⟩⟩; refine ⟨_, rfl, ?_⟩))
          go_ret
          exact ⟨by first | rfl | (simp [errW_none, errW_some] <;> rfl) | (simp [*, errW_none, errW_some] <;> rfl), by repeat (first | (with_reducible first | exact HB.out | apply below_alloc | apply pw_below_drewN | apply below_drew1 | refine below_set ?_ GE162.out | refine below_set ?_ GE163.out) | exact HB.out)⟩
        · rw [if_neg c23] at H
          have c23b0 : decide (a0_1 < a1_1) = false := decide_eq_false c23
          clear c23
          obtain rfl := Option.some.inj H
          go_enter Tryd.func66, Tryd.ntmps66
          go_wp2_with (first | ((with_reducible refine gate_dst (N := 2) rfl ?_); refine box_event ?hg (N := 2) ?hd (cs := #[.string a0_0, .int .u64 a0_1, .bool a0_2, .string a0_3]) (t := 30) ?hr ?_; (case hd => rfl); (case hg => rfl); (case hr => first | (go_simp; done) | (go_simp; rfl)); intro gb162 hg w29 hbox hb; have n0_ := Aside0.mk (below_step (by repeat (first | (with_reducible first | exact HB.out | apply below_alloc | apply pw_below_drewN | apply below_drew1) | exact HB.out)) hb); have n1_ := Aside0.mk (hbox); have n2_ := Aside0.mk ((by rw [hg]; exact (below_size (by repeat (first | (with_reducible first | exact HB.out | apply below_alloc | apply pw_below_drewN | apply below_drew1) | exact HB.out))) : w.heap.size ≤ gb162)); have n3_ := Aside0.mk ((by rw [hg]; exact (below_size (by repeat (first | (with_reducible first | exact HB.out | apply below_alloc | apply pw_below_drewN | apply below_drew1) | exact HB.out))) : w.heap.size ≤ gb162)); clear HB; have HB := n0_; have BK162 := n1_; have GW162 := n2_; have GE162 := n3_; clear n0_ n1_ n2_ n3_; clear hb hbox hg) | ((with_reducible refine gate_dst (N := 3) rfl ?_); refine box_event ?hg (N := 3) ?hd (cs := #[.string a1_0, .int .u64 a1_1, .bool a1_2, .string a1_3]) (t := 30) ?hr ?_; (case hd => rfl); (case hg => rfl); (case hr => first | (go_simp; done) | (go_simp; rfl)); intro gb163 hg w30 hbox hb; have n0_ := Aside0.mk (blk_below (g := gb162) (o := .cells #[.string a0_0, .int .u64 a0_1, .bool a0_2, .string a0_3] 30 (0, 0)) (by (with_reducible repeat (first | refine blk_drewN ?_ _ | refine blk_drew ?_ | refine blk_alloc ?_ _)); exact BK162.out) hb); have n1_ := Aside0.mk (below_step (by repeat (first | (with_reducible first | exact HB.out | apply below_alloc | apply pw_below_drewN | apply below_drew1 | refine below_set ?_ GE162.out) | exact HB.out)) hb); have n2_ := Aside0.mk (hbox); have n3_ := Aside0.mk ((by rw [hg]; exact (below_size (by repeat (first | (with_reducible first | exact HB.out | apply below_alloc | apply pw_below_drewN | apply below_drew1 | refine below_set ?_ GE162.out) | exact HB.out))) : w.heap.size ≤ gb163)); have n4_ := Aside0.mk ((by rw [hg]; exact (below_size (by repeat (first | (with_reducible first | exact HB.out | apply below_alloc | apply pw_below_drewN | apply below_drew1 | refine below_set ?_ GE162.out) | exact HB.out))) : w.heap.size ≤ gb163)); have n5_ := Aside0.mk ((by rw [hg]; exact Nat.ne_of_lt (blk_lt (g := gb162) (o := .cells #[.string a0_0, .int .u64 a0_1, .bool a0_2, .string a0_3] 30 (0, 0)) (by (with_reducible repeat (first | refine blk_drewN ?_ _ | refine blk_drew ?_ | refine blk_alloc ?_ _)); exact BK162.out)) : gb162 ≠ gb163)); have n6_ := Aside0.mk ((by rw [hg]; exact Nat.ne_of_gt (blk_lt (g := gb162) (o := .cells #[.string a0_0, .int .u64 a0_1, .bool a0_2, .string a0_3] 30 (0, 0)) (by (with_reducible repeat (first | refine blk_drewN ?_ _ | refine blk_drew ?_ | refine blk_alloc ?_ _)); exact BK162.out)) : gb163 ≠ gb162)); clear BK162; clear HB; have BK162 := n0_; have HB := n1_; have BK163 := n2_; have GW163 := n3_; have GE163 := n4_; have NB162_163 := n5_; have NB163_162 := n6_; clear n0_ n1_ n2_ n3_ n4_ n5_ n6_; clear hb hbox hg; have hnb31 := NB162_163.out; have hnc31 := NB163_162.out; have hcz32_0 : w30.cell? ⟨gb162, 0, none⟩ = some (.string a0_0) := (blk_cell BK162.out 0).trans rfl; have hcz32_1 : w30.cell? ⟨gb162, 1, none⟩ = some (.int .u64 a0_1) := (blk_cell BK162.out 1).trans rfl; have hcz32_2 : w30.cell? ⟨gb162, 2, none⟩ = some (.bool a0_2) := (blk_cell BK162.out 2).trans rfl; have hcz32_3 : w30.cell? ⟨gb162, 3, none⟩ = some (.string a0_3) := (blk_cell BK162.out 3).trans rfl; have hfz32_0 := blk_frozen BK162.out 0; have hfz32_1 := blk_frozen BK162.out 1; have hfz32_2 := blk_frozen BK162.out 2; have hfz32_3 := blk_frozen BK162.out 3; have hcz33_0 : w30.cell? ⟨gb163, 0, none⟩ = some (.string a1_0) := (blk_cell BK163.out 0).trans rfl; have hcz33_1 : w30.cell? ⟨gb163, 1, none⟩ = some (.int .u64 a1_1) := (blk_cell BK163.out 1).trans rfl; have hcz33_2 : w30.cell? ⟨gb163, 2, none⟩ = some (.bool a1_2) := (blk_cell BK163.out 2).trans rfl; have hcz33_3 : w30.cell? ⟨gb163, 3, none⟩ = some (.string a1_3) := (blk_cell BK163.out 3).trans rfl; have hfz33_0 := blk_frozen BK163.out 0; have hfz33_1 := blk_frozen BK163.out 1; have hfz33_2 := blk_frozen BK163.out 2; have hfz33_3 := blk_frozen BK163.out 3) | ((with_reducible refine gate_callee (f := 84) rfl ?_); refine goesL_ (some 9) rfl rfl Tryd.func84 (by kernel_rfl) rfl #[.string a0_0, .string a1_0] rfl (by (try simp only [List.map_toArray, List.map_cons, List.map_nil]); first | done | rfl | (simp only [List.length_drop, List.length_take]; rfl)) ?_; (with_reducible refine (screeref1_below.calls k a0_0 a1_0 false _ A3.out).mono ?_); rintro e w' ⟨rfl, ⟨nd, rfl⟩⟩; refine ⟨_, rfl, ?_⟩) | ((with_reducible refine gate_callee (f := 84) rfl ?_); refine goesL_ (some 14) rfl rfl Tryd.func84 (by kernel_rfl) rfl #[.string a1_0, .string a0_0] rfl (by (try simp only [List.map_toArray, List.map_cons, List.map_nil]); first | done | rfl | (simp only [List.length_drop, List.length_take]; rfl)) ?_; (with_reducible refine (screeref1_below.calls k a1_0 a0_0 false _ A10.out).mono ?_); rintro e w' ⟨rfl, ⟨nd, rfl⟩⟩; refine ⟨_, rfl, ?_⟩))
          go_ret
          exact ⟨by first | rfl | (simp [errW_none, errW_some] <;> rfl) | (simp [*, errW_none, errW_some] <;> rfl), by repeat (first | (with_reducible first | exact HB.out | apply below_alloc | apply pw_below_drewN | apply below_drew1 | refine below_set ?_ GE162.out | refine below_set ?_ GE163.out) | exact HB.out)⟩

/-! ### screeref9_Above: function 33 -/
def screeref9_Above.f (k : Nat) (a0 : ByteArray) (a1 : ByteArray) : Option (Bool) := (screeref1_Compare.f k a0 0 false (⟨#[]⟩ : ByteArray) a1 0 false (⟨#[]⟩ : ByteArray)).bind fun t166 => (some (decide (t166 > 0)))
theorem screeref9_Above.mono : ∀ a0 a1 k, LeO (screeref9_Above.f k a0 a1) (screeref9_Above.f (k + 1) a0 a1) := by
  intro a0 a1 k
  unfold screeref9_Above.f
  repeat' first
      | (with_reducible exact screeref1_Compare.mono _ _ _ _ _ _ _ _ _)
      | (with_reducible exact LeO.refl _)
      | (with_reducible exact LeO.none _)
      | (with_reducible refine LeO.ite ?_ ?_)
      | (with_reducible refine LeO.bind ?_ (fun _ => ?_))
      | exact screeref1_Compare.mono _ _ _ _ _ _ _ _ _
      | exact LeO.none _
      | refine LeO.ite ?_ ?_
      | refine LeO.bind ?_ (fun _ => ?_)
set_option maxHeartbeats 8000000 in
set_option maxRecDepth 100000 in
theorem screeref9_Above.calls (k : Nat) (a0 : ByteArray) (a1 : ByteArray) (r : Bool) (w : World) (h : screeref9_Above.f k a0 a1 = some r) :
    Calls Tryd.prog 33 #[.string a0, .string a1] w fun e w' => e = .returned (.bool r) ∧ Below w.heap.size w w' := by
  have hu30 := Tryd.underlying30
  have HB := Aside0.mk (Below.refl w.heap.size w)
  have H : ((screeref1_Compare.f k a0 0 false (⟨#[]⟩ : ByteArray) a1 0 false (⟨#[]⟩ : ByteArray)).bind fun t166 => (some (decide (t166 > 0)))) = some r := h
  clear h
  replace H := Option.bind_eq_some_iff.mp H
  obtain ⟨t166, A30, H⟩ := H
  replace H : (some (decide (t166 > 0))) = some r := H
  have A3 := Aside0.mk A30
  clear A30
  obtain rfl := Option.some.inj H
  go_enter Tryd.func33, Tryd.ntmps33
  go_wp2_with (first | ((with_reducible refine gate_callee (f := 66) rfl ?_); refine goesL_ (some 9) rfl rfl Tryd.func66 (by kernel_rfl) rfl #[.agg #[.string a0, .int .u64 0, .bool false, .string (⟨#[]⟩ : ByteArray)], .agg #[.string a1, .int .u64 0, .bool false, .string (⟨#[]⟩ : ByteArray)]] rfl (by (try simp only [List.map_toArray, List.map_cons, List.map_nil]); first | done | rfl | (simp only [List.length_drop, List.length_take]; rfl)) ?_; (with_reducible refine (screeref1_Compare.calls k a0 0 false (⟨#[]⟩ : ByteArray) a1 0 false (⟨#[]⟩ : ByteArray) t166 _ A3.out).mono ?_); rintro e w4 ⟨rfl, hb⟩; refine ⟨_, rfl, ?_⟩; have n0_ := Aside0.mk (below_step (by repeat (first | (with_reducible first | exact HB.out | apply below_alloc | apply pw_below_drewN | apply below_drew1) | exact HB.out)) hb); clear HB; have HB := n0_; clear n0_; (try clear hb); (try clear hb2); (try clear hk); (try clear hi)))
  go_ret
  exact ⟨by first | rfl | (simp [errW_none, errW_some] <;> rfl) | (simp [*, errW_none, errW_some] <;> rfl), by repeat (first | (with_reducible first | exact HB.out | apply below_alloc | apply pw_below_drewN | apply below_drew1) | exact HB.out)⟩

end Go.Proofs.YtaonjmkfbfhanaaDoor.QBo
-- Printed by a program of this claim's own out of the translation.
namespace Go.Proofs.YtaonjmkfbfhanaaDoor.QBo
open Go.Proofs.YtaonjmkfbfhanaaDoor.Own
open Go.RowKit Go.Proofs.YtaonjmkfbfhanaaDoorW.PrintWords Go.Proofs.YtaonjmkfbfhanaaDoorW.PrintLast Go.Proofs.YtaonjmkfbfhanaaDoorW.PrintMore
attribute [local go_sem] max2_int min2_int max_two min_two max_three min_three max_four min_four   -- for this text's walks alone
set_option linter.unusedVariables false
set_option linter.unusedSimpArgs false

attribute [local go_sem high] eqA30
/-! ### screelaw9_same_p: function 18 -/
def screelaw9_same_p.l0 : Nat → List Int → List Int → Int → Option (Bool)
  | 0, _, _, _ => none
  | k + 1, x0, x1, x5 => if x5 < (x0.length : Int) then (if 0 ≤ x5 then (if x5 < (x1.length : Int) then (if (rd x0 x5) = (rd x1 x5) then (screelaw9_same_p.l0 k x0 x1 (wrap64 (x5 + 1))) else (some false)) else (none)) else (none)) else (some true)
def screelaw9_same_p.f (k : Nat) (l0 : List Int) (l1 : List Int) : Option (Bool) := if (l0.length : Int) = (l1.length : Int) then (screelaw9_same_p.l0 k l0 l1 0) else (some false)
theorem screelaw9_same_p.mono_l : ∀ k, (∀ y0 y1 y2, LeO (screelaw9_same_p.l0 k y0 y1 y2) (screelaw9_same_p.l0 (k + 1) y0 y1 y2))
  | 0 => fun _ _ _ r h => by simp [screelaw9_same_p.l0] at h
  | k + 1 => by
    have ih0 := screelaw9_same_p.mono_l k
    · intro y0 y1 y2
      unfold screelaw9_same_p.l0
      repeat' first
      | (with_reducible exact ih0 _ _ _)
      | (with_reducible exact LeO.refl _)
      | (with_reducible exact LeO.none _)
      | (with_reducible refine LeO.ite ?_ ?_)
      | (with_reducible refine LeO.bind ?_ (fun _ => ?_))
      | exact ih0 _ _ _
      | exact LeO.none _
      | refine LeO.ite ?_ ?_
      | refine LeO.bind ?_ (fun _ => ?_)
theorem screelaw9_same_p.mono : ∀ a0 a1 k, LeO (screelaw9_same_p.f k a0 a1) (screelaw9_same_p.f (k + 1) a0 a1) := by
  intro a0 a1 k
  have ih0 := screelaw9_same_p.mono_l k
  unfold screelaw9_same_p.f
  repeat' first
      | (with_reducible exact ih0 _ _ _)
      | (with_reducible exact LeO.refl _)
      | (with_reducible exact LeO.none _)
      | (with_reducible refine LeO.ite ?_ ?_)
      | (with_reducible refine LeO.bind ?_ (fun _ => ?_))
      | exact ih0 _ _ _
      | exact LeO.none _
      | refine LeO.ite ?_ ?_
      | refine LeO.bind ?_ (fun _ => ?_)
set_option maxHeartbeats 8000000 in
set_option maxRecDepth 100000 in
theorem screelaw9_same_p.calls (k : Nat) (A0 : Option Addr) (c0 : Nat) (l0 : List Int) (A1 : Option Addr) (c1 : Nat) (l1 : List Int) (r : Bool) (w : World) (hr0 : Kd.C (Kd.int .u8) w A0 l0.length l0) (hc0 : l0.length ≤ c0) (hr1 : Kd.C (Kd.int .u8) w A1 l1.length l1) (hc1 : l1.length ≤ c1) (h : screelaw9_same_p.f k l0 l1 = some r) :
    Calls Tryd.prog 18 #[.slice A0 l0.length c0, .slice A1 l1.length c1] w fun e w' => e = .returned (.bool r) ∧ Drawn0 w w' := by
  have HR0 := Aside0.mk hr0
  have HC0 := Aside0.mk hc0
  clear hr0 hc0
  have HR1 := Aside0.mk hr1
  have HC1 := Aside0.mk hc1
  clear hr1 hc1
  have H : (if (l0.length : Int) = (l1.length : Int) then (screelaw9_same_p.l0 k l0 l1 0) else (some false)) = some r := h
  clear h
  by_cases c3 : (l0.length : Int) = (l1.length : Int)
  · rw [if_pos c3] at H
    have c3b0 : ((l0.length : Int) == (l1.length : Int)) = true := beq_iff_eq.mpr c3
    have c3b1 : ((l0.length : Int) != (l1.length : Int)) = false := bne_eq_false_iff_eq.mpr c3
    have c3b2 : (l0.length == l1.length) = true := by first | simpa using c3 | (simp at c3 ⊢; omega)
    clear c3
    have H' := Aside0.mk H
    clear H
    go_enter Tryd.func18, Tryd.ntmps18
    go_wp2
    repeat (go_quiet (fail); try go_wp2)
    go_loopg [5] k (fun kq v5 w' => ∃ (x5_1 : Int), v5 = .int .i64 x5_1 ∧ Aside0 (screelaw9_same_p.l0 kq l0 l1 x5_1 = some r) ∧ Aside0 (kq ≤ k) ∧ Drawn0 w w')
    case atStart => exact ⟨(0), (by first | rfl | (simp; done) | (simp [*]; done)), H', ⟨Nat.le_refl _⟩, by repeat (first | exact Drawn0.refl _ | apply Drawn0.step)⟩
    case round =>
      clear H'
      try clear c1
      try clear p2
      try clear c3
      try clear c3b0
      try clear c3b1
      try clear c3b2
      obtain ⟨x5_1, rfl, HA, HK1, ⟨m1, rfl⟩⟩ := hrel
      cases gk with
      | zero => exact absurd HA.out (by simp [screelaw9_same_p.l0])
      | succ k1 =>
        have H := HA.out
        clear HA
        simp only [screelaw9_same_p.l0] at H
        by_cases c4 : x5_1 < (l0.length : Int)
        · rw [if_pos c4] at H
          have c4b0 : decide (x5_1 < (l0.length : Int)) = true := decide_eq_true c4
          clear c4
          by_cases c5 : 0 ≤ x5_1
          · rw [if_pos c5] at H
            have c5b0 : decide (0 ≤ x5_1) = true := decide_eq_true c5
            clear c5
            by_cases c6 : x5_1 < (l1.length : Int)
            · rw [if_pos c6] at H
              have c6b0 : decide (x5_1 < (l1.length : Int)) = true := decide_eq_true c6
              clear c6
              by_cases c7 : (rd l0 x5_1) = (rd l1 x5_1)
              · rw [if_pos c7] at H
                have c7b0 : ((rd l0 x5_1) == (rd l1 x5_1)) = true := beq_iff_eq.mpr c7
                have c7b1 : ((rd l0 x5_1) != (rd l1 x5_1)) = false := bne_eq_false_iff_eq.mpr c7
                clear c7
                have H' := Aside0.mk H
                clear H
                have p294 : 0 ≤ (x5_1 : Int) := of_decide_eq_true (by first | (with_reducible assumption) | assumption)
                have q294 : x5_1 < (l0.length : Int) := of_decide_eq_true (by first | (with_reducible assumption) | assumption)
                obtain ⟨ad294, e294, hx294_0⟩ := Kd.at_int HR0.out x5_1 p294 q294
                cases e294
                replace p294 := eq_true p294
                replace q294 := eq_true q294
                have p295 : 0 ≤ (x5_1 : Int) := of_decide_eq_true (by first | (with_reducible assumption) | assumption)
                have q295 : x5_1 < (l1.length : Int) := of_decide_eq_true (by first | (with_reducible assumption) | assumption)
                obtain ⟨ad295, e295, hx295_0⟩ := Kd.at_int HR1.out x5_1 p295 q295
                cases e295
                replace p295 := eq_true p295
                replace q295 := eq_true q295
                go_wp2
                repeat (go_quiet (fail); try go_wp2)
                go_roundg k1
                case measure => have := HK1.out; omega
                case rel => exact ⟨(wrap64 (x5_1 + 1)), (by first | rfl | (simp; done) | (simp [*]; done)), H', ⟨by have := HK1.out; omega⟩, by repeat (first | exact Drawn0.refl _ | apply Drawn0.step)⟩
              · rw [if_neg c7] at H
                have c7b0 : ((rd l0 x5_1) == (rd l1 x5_1)) = false := beq_eq_false_iff_ne.mpr c7
                have c7b1 : ((rd l0 x5_1) != (rd l1 x5_1)) = true := bne_iff_ne.mpr c7
                obtain rfl := Option.some.inj H
                have p294 : 0 ≤ (x5_1 : Int) := of_decide_eq_true (by first | (with_reducible assumption) | assumption)
                have q294 : x5_1 < (l0.length : Int) := of_decide_eq_true (by first | (with_reducible assumption) | assumption)
                obtain ⟨ad294, e294, hx294_0⟩ := Kd.at_int HR0.out x5_1 p294 q294
                cases e294
                replace p294 := eq_true p294
                replace q294 := eq_true q294
                have p295 : 0 ≤ (x5_1 : Int) := of_decide_eq_true (by first | (with_reducible assumption) | assumption)
                have q295 : x5_1 < (l1.length : Int) := of_decide_eq_true (by first | (with_reducible assumption) | assumption)
                obtain ⟨ad295, e295, hx295_0⟩ := Kd.at_int HR1.out x5_1 p295 q295
                cases e295
                replace p295 := eq_true p295
                replace q295 := eq_true q295
                go_wp2
                repeat (go_quiet (fail); try go_wp2)
                go_ret
                exact ⟨by first | rfl | (simp; done) | (simp [*]; done), by repeat (first | exact Drawn0.refl _ | apply Drawn0.step)⟩
            · rw [if_neg c6] at H
              exact absurd H (by simp)
          · rw [if_neg c5] at H
            exact absurd H (by simp)
        · rw [if_neg c4] at H
          have c4b0 : decide (x5_1 < (l0.length : Int)) = false := decide_eq_false c4
          clear c4
          obtain rfl := Option.some.inj H
          go_wp2
          repeat (go_quiet (fail); try go_wp2)
          go_ret
          exact ⟨by first | rfl | (simp; done) | (simp [*]; done), by repeat (first | exact Drawn0.refl _ | apply Drawn0.step)⟩
  · rw [if_neg c3] at H
    have c3b0 : ((l0.length : Int) == (l1.length : Int)) = false := beq_eq_false_iff_ne.mpr c3
    have c3b1 : ((l0.length : Int) != (l1.length : Int)) = true := bne_iff_ne.mpr c3
    have c3b2 : (l0.length == l1.length) = false := by first | simpa using c3 | (simp at c3 ⊢; omega)
    obtain rfl := Option.some.inj H
    go_enter Tryd.func18, Tryd.ntmps18
    go_wp2
    repeat (go_quiet (fail); try go_wp2)
    go_ret
    exact ⟨by first | rfl | (simp; done) | (simp [*]; done), by repeat (first | exact Drawn0.refl _ | apply Drawn0.step)⟩

/-! ### screelaw9_same: function 18 -/
theorem screelaw9_same_ev (l1 l2 : List Int) (hlen : l1.length = l2.length) (hm : l1.length ≤ 9223372036854775807) (d : Nat) : ∀ i : Nat, i + d = l1.length → Ev (fun k => screelaw9_same_p.l0 k l1 l2 (i : Int)) (decide (l1.drop i = l2.drop i)) := by
  induction d with
  | zero =>
    intro i hi
    refine Ev.step (f := fun _ => some true) (fun k => ?_) (by rw [List.drop_of_length_le (by omega), List.drop_of_length_le (by omega)]; exact Ev.now _)
    simp only [screelaw9_same_p.l0]
    rw [if_neg (by omega)]
  | succ d ih =>
    intro i hi
    have h1 : i < l1.length := by omega
    have h2 : i < l2.length := by omega
    have e1 : rd l1 (i : Int) = l1[i] := by simp [rd, List.getD_eq_getElem?_getD, h1]
    have e2 : rd l2 (i : Int) = l2[i] := by simp [rd, List.getD_eq_getElem?_getD, h2]
    rw [List.drop_eq_getElem_cons h1, List.drop_eq_getElem_cons h2]
    by_cases h : l1[i] = l2[i]
    · have hd : decide (l1[i] :: l1.drop (i + 1) = l2[i] :: l2.drop (i + 1)) = decide (l1.drop (i + 1) = l2.drop (i + 1)) := decide_eq_decide.2 ⟨fun e => (List.cons.inj e).2, fun e => by rw [h, e]⟩
      rw [hd]
      refine Ev.step (fun k => ?_) (ih (i + 1) (by omega))
      simp only [screelaw9_same_p.l0]
      rw [if_pos (by omega), if_pos (by omega), if_pos (by omega), e1, e2, if_pos h, show wrap64 ((i : Int) + 1) = ((i + 1 : Nat) : Int) by unfold wrap64; omega]
    · have hd : decide (l1[i] :: l1.drop (i + 1) = l2[i] :: l2.drop (i + 1)) = false := decide_eq_false (fun e => h (List.cons.inj e).1)
      rw [hd]
      refine Ev.step (f := fun _ => some false) (fun k => ?_) (Ev.now _)
      simp only [screelaw9_same_p.l0]
      rw [if_pos (by omega), if_pos (by omega), if_pos (by omega), e1, e2, if_neg h]
def screelaw9_same.f (l0 : List Int) (l1 : List Int) : Option (Bool) := if l0.length ≤ 9223372036854775807 then some (decide (l0 = l1)) else none
theorem screelaw9_same.calls (A0 : Option Addr) (c0 : Nat) (l0 : List Int) (A1 : Option Addr) (c1 : Nat) (l1 : List Int) (r : Bool) (w : World) (hr0 : Kd.C (Kd.int .u8) w A0 l0.length l0) (hc0 : l0.length ≤ c0) (hr1 : Kd.C (Kd.int .u8) w A1 l1.length l1) (hc1 : l1.length ≤ c1) (h : screelaw9_same.f l0 l1 = some r) :
    Calls Tryd.prog 18 #[.slice A0 l0.length c0, .slice A1 l1.length c1] w fun e w' => e = .returned (.bool r) ∧ Drawn0 w w' := by
  unfold screelaw9_same.f at h
  split at h
  · rename_i hh
    by_cases hlen : l0.length = l1.length
    · obtain ⟨k, hk⟩ := (screelaw9_same_ev l0 l1 hlen hh l0.length 0 (by omega)).rounds
      refine screelaw9_same_p.calls k A0 c0 l0 A1 c1 l1 r w hr0 hc0 hr1 hc1 ?_
      unfold screelaw9_same_p.f
      rw [if_pos (by omega)]
      rw [← h]
      exact hk
    · refine screelaw9_same_p.calls 0 A0 c0 l0 A1 c1 l1 r w hr0 hc0 hr1 hc1 ?_
      unfold screelaw9_same_p.f
      rw [if_neg (by omega), ← h]
      have : ¬ l0 = l1 := fun e => hlen (by rw [e])
      simp [this]
  · cases h

/-! ### screelaw9_num: function 19 -/
def screelaw9_num.f (a0 : Int) : Option (Int) := some a0
set_option maxHeartbeats 8000000 in
set_option maxRecDepth 100000 in
theorem screelaw9_num.calls (a0 : Int) (r : Int) (w : World) (h : screelaw9_num.f a0 = some r) :
    Calls Tryd.prog 19 #[.int .i64 a0] w fun e w' => e = .returned (.int .i64 r) ∧ Drawn0 w w' := by
  have H : (some a0) = some r := h
  clear h
  obtain rfl := Option.some.inj H
  go_enter Tryd.func19, Tryd.ntmps19
  go_wp2
  go_ret
  exact ⟨by first | rfl | (simp; done) | (simp [*]; done), by repeat (first | exact Drawn0.refl _ | apply Drawn0.step)⟩

/-! ### screelaw9_sameEntries: function 20 -/
def screelaw9_sameEntries.l0 : Nat → List (S30) → List (S30) → Int → Option (Bool)
  | 0, _, _, _ => none
  | k + 1, x0, x1, x5 => if x5 < (x0.length : Int) then (if 0 ≤ x5 then (if x5 < (x1.length : Int) then (if (!((((rd_T30 x0 x5).f0).toList) == (((rd_T30 x1 x5).f0).toList)) || (!(((rd_T30 x0 x5).f1) == ((rd_T30 x1 x5).f1)) || (!(((rd_T30 x0 x5).f2) == ((rd_T30 x1 x5).f2)) || (!((((rd_T30 x0 x5).f3).toList) == (((rd_T30 x1 x5).f3).toList)))))) = true then (some false) else (screelaw9_sameEntries.l0 k x0 x1 (wrap64 (x5 + 1)))) else (none)) else (none)) else (some true)
def screelaw9_sameEntries.f (k : Nat) (l0 : List (S30)) (l1 : List (S30)) : Option (Bool) := if (l0.length : Int) = (l1.length : Int) then (screelaw9_sameEntries.l0 k l0 l1 0) else (some false)
theorem screelaw9_sameEntries.mono_l : ∀ k, (∀ y0 y1 y2, LeO (screelaw9_sameEntries.l0 k y0 y1 y2) (screelaw9_sameEntries.l0 (k + 1) y0 y1 y2))
  | 0 => fun _ _ _ r h => by simp [screelaw9_sameEntries.l0] at h
  | k + 1 => by
    have ih0 := screelaw9_sameEntries.mono_l k
    · intro y0 y1 y2
      unfold screelaw9_sameEntries.l0
      repeat' first
      | (with_reducible exact ih0 _ _ _)
      | (with_reducible exact LeO.refl _)
      | (with_reducible exact LeO.none _)
      | (with_reducible refine LeO.ite ?_ ?_)
      | (with_reducible refine LeO.bind ?_ (fun _ => ?_))
      | exact ih0 _ _ _
      | exact LeO.none _
      | refine LeO.ite ?_ ?_
      | refine LeO.bind ?_ (fun _ => ?_)
theorem screelaw9_sameEntries.mono : ∀ a0 a1 k, LeO (screelaw9_sameEntries.f k a0 a1) (screelaw9_sameEntries.f (k + 1) a0 a1) := by
  intro a0 a1 k
  have ih0 := screelaw9_sameEntries.mono_l k
  unfold screelaw9_sameEntries.f
  repeat' first
      | (with_reducible exact ih0 _ _ _)
      | (with_reducible exact LeO.refl _)
      | (with_reducible exact LeO.none _)
      | (with_reducible refine LeO.ite ?_ ?_)
      | (with_reducible refine LeO.bind ?_ (fun _ => ?_))
      | exact ih0 _ _ _
      | exact LeO.none _
      | refine LeO.ite ?_ ?_
      | refine LeO.bind ?_ (fun _ => ?_)
set_option maxHeartbeats 8000000 in
set_option maxRecDepth 100000 in
theorem screelaw9_sameEntries.calls (k : Nat) (A0 : Option Addr) (c0 : Nat) (l0 : List (S30)) (A1 : Option Addr) (c1 : Nat) (l1 : List (S30)) (r : Bool) (w : World) (hr0 : Kd.C k30 w A0 l0.length l0) (hc0 : l0.length ≤ c0) (hr1 : Kd.C k30 w A1 l1.length l1) (hc1 : l1.length ≤ c1) (h : screelaw9_sameEntries.f k l0 l1 = some r) :
    Calls Tryd.prog 20 #[.slice A0 l0.length c0, .slice A1 l1.length c1] w fun e w' => e = .returned (.bool r) ∧ Drawn0 w w' := by
  have hu30 := Tryd.underlying30
  have HR0 := Aside0.mk hr0
  have HC0 := Aside0.mk hc0
  clear hr0 hc0
  have HR1 := Aside0.mk hr1
  have HC1 := Aside0.mk hc1
  clear hr1 hc1
  have H : (if (l0.length : Int) = (l1.length : Int) then (screelaw9_sameEntries.l0 k l0 l1 0) else (some false)) = some r := h
  clear h
  by_cases c3 : (l0.length : Int) = (l1.length : Int)
  · rw [if_pos c3] at H
    have c3b0 : ((l0.length : Int) == (l1.length : Int)) = true := beq_iff_eq.mpr c3
    have c3b1 : ((l0.length : Int) != (l1.length : Int)) = false := bne_eq_false_iff_eq.mpr c3
    have c3b2 : (l0.length == l1.length) = true := by first | simpa using c3 | (simp at c3 ⊢; omega)
    clear c3
    have H' := Aside0.mk H
    clear H
    go_enter Tryd.func20, Tryd.ntmps20
    go_wp2
    repeat (go_quiet (fail); try go_wp2)
    go_loopg [5] k (fun kq v5 w' => ∃ (x5_1 : Int), v5 = .int .i64 x5_1 ∧ Aside0 (screelaw9_sameEntries.l0 kq l0 l1 x5_1 = some r) ∧ Aside0 (kq ≤ k) ∧ Drawn0 w w')
    case atStart => exact ⟨(0), (by first | rfl | (simp; done) | (simp [*]; done)), H', ⟨Nat.le_refl _⟩, by repeat (first | exact Drawn0.refl _ | apply Drawn0.step)⟩
    case round =>
      clear H'
      try clear c1
      try clear c2
      try clear p2
      try clear c3
      try clear c3b0
      try clear c3b1
      try clear c3b2
      obtain ⟨x5_1, rfl, HA, HK1, ⟨m1, rfl⟩⟩ := hrel
      cases gk with
      | zero => exact absurd HA.out (by simp [screelaw9_sameEntries.l0])
      | succ k1 =>
        have H := HA.out
        clear HA
        simp only [screelaw9_sameEntries.l0] at H
        by_cases c4 : x5_1 < (l0.length : Int)
        · rw [if_pos c4] at H
          have c4b0 : decide (x5_1 < (l0.length : Int)) = true := decide_eq_true c4
          clear c4
          by_cases c5 : 0 ≤ x5_1
          · rw [if_pos c5] at H
            have c5b0 : decide (0 ≤ x5_1) = true := decide_eq_true c5
            clear c5
            by_cases c6 : x5_1 < (l1.length : Int)
            · rw [if_pos c6] at H
              have c6b0 : decide (x5_1 < (l1.length : Int)) = true := decide_eq_true c6
              clear c6
              by_cases c7 : (!((((rd_T30 l0 x5_1).f0).toList) == (((rd_T30 l1 x5_1).f0).toList)) || (!(((rd_T30 l0 x5_1).f1) == ((rd_T30 l1 x5_1).f1)) || (!(((rd_T30 l0 x5_1).f2) == ((rd_T30 l1 x5_1).f2)) || (!((((rd_T30 l0 x5_1).f3).toList) == (((rd_T30 l1 x5_1).f3).toList)))))) = true
              · rw [if_pos c7] at H
                have c7b0 : (!((((rd_T30 l0 x5_1).f0).toList) == (((rd_T30 l1 x5_1).f0).toList)) || (!(((rd_T30 l0 x5_1).f1) == ((rd_T30 l1 x5_1).f1)) || (!(((rd_T30 l0 x5_1).f2) == ((rd_T30 l1 x5_1).f2)) || (!((((rd_T30 l0 x5_1).f3).toList) == (((rd_T30 l1 x5_1).f3).toList)))))) = true := c7
                clear c7
                obtain rfl := Option.some.inj H
                have p296 : 0 ≤ (x5_1 : Int) := of_decide_eq_true (by first | (with_reducible assumption) | assumption)
                have q296 : x5_1 < (l0.length : Int) := of_decide_eq_true (by first | (with_reducible assumption) | assumption)
                obtain ⟨ad296, e296, hx296_0, hx296_1, hx296_2, hx296_3⟩ := at_T30 HR0.out x5_1 p296 q296
                cases e296
                replace p296 := eq_true p296
                replace q296 := eq_true q296
                have p297 : 0 ≤ (x5_1 : Int) := of_decide_eq_true (by first | (with_reducible assumption) | assumption)
                have q297 : x5_1 < (l1.length : Int) := of_decide_eq_true (by first | (with_reducible assumption) | assumption)
                obtain ⟨ad297, e297, hx297_0, hx297_1, hx297_2, hx297_3⟩ := at_T30 HR1.out x5_1 p297 q297
                cases e297
                replace p297 := eq_true p297
                replace q297 := eq_true q297
                go_wp2
                repeat (go_quiet (fail); try go_wp2)
                go_ret
                exact ⟨by first | rfl | (simp; done) | (simp [*]; done), by repeat (first | exact Drawn0.refl _ | apply Drawn0.step)⟩
              · rw [if_neg c7] at H
                have c7b0 : (!((((rd_T30 l0 x5_1).f0).toList) == (((rd_T30 l1 x5_1).f0).toList)) || (!(((rd_T30 l0 x5_1).f1) == ((rd_T30 l1 x5_1).f1)) || (!(((rd_T30 l0 x5_1).f2) == ((rd_T30 l1 x5_1).f2)) || (!((((rd_T30 l0 x5_1).f3).toList) == (((rd_T30 l1 x5_1).f3).toList)))))) = false := by simpa using c7
                clear c7
                have H' := Aside0.mk H
                clear H
                have p296 : 0 ≤ (x5_1 : Int) := of_decide_eq_true (by first | (with_reducible assumption) | assumption)
                have q296 : x5_1 < (l0.length : Int) := of_decide_eq_true (by first | (with_reducible assumption) | assumption)
                obtain ⟨ad296, e296, hx296_0, hx296_1, hx296_2, hx296_3⟩ := at_T30 HR0.out x5_1 p296 q296
                cases e296
                replace p296 := eq_true p296
                replace q296 := eq_true q296
                have p297 : 0 ≤ (x5_1 : Int) := of_decide_eq_true (by first | (with_reducible assumption) | assumption)
                have q297 : x5_1 < (l1.length : Int) := of_decide_eq_true (by first | (with_reducible assumption) | assumption)
                obtain ⟨ad297, e297, hx297_0, hx297_1, hx297_2, hx297_3⟩ := at_T30 HR1.out x5_1 p297 q297
                cases e297
                replace p297 := eq_true p297
                replace q297 := eq_true q297
                go_wp2
                repeat (go_quiet (fail); try go_wp2)
                go_roundg k1
                case measure => have := HK1.out; omega
                case rel => exact ⟨(wrap64 (x5_1 + 1)), (by first | rfl | (simp; done) | (simp [*]; done)), H', ⟨by have := HK1.out; omega⟩, by repeat (first | exact Drawn0.refl _ | apply Drawn0.step)⟩
            · rw [if_neg c6] at H
              exact absurd H (by simp)
          · rw [if_neg c5] at H
            exact absurd H (by simp)
        · rw [if_neg c4] at H
          have c4b0 : decide (x5_1 < (l0.length : Int)) = false := decide_eq_false c4
          clear c4
          obtain rfl := Option.some.inj H
          go_wp2
          repeat (go_quiet (fail); try go_wp2)
          go_ret
          exact ⟨by first | rfl | (simp; done) | (simp [*]; done), by repeat (first | exact Drawn0.refl _ | apply Drawn0.step)⟩
  · rw [if_neg c3] at H
    have c3b0 : ((l0.length : Int) == (l1.length : Int)) = false := beq_eq_false_iff_ne.mpr c3
    have c3b1 : ((l0.length : Int) != (l1.length : Int)) = true := bne_iff_ne.mpr c3
    have c3b2 : (l0.length == l1.length) = false := by first | simpa using c3 | (simp at c3 ⊢; omega)
    obtain rfl := Option.some.inj H
    go_enter Tryd.func20, Tryd.ntmps20
    go_wp2
    repeat (go_quiet (fail); try go_wp2)
    go_ret
    exact ⟨by first | rfl | (simp; done) | (simp [*]; done), by repeat (first | exact Drawn0.refl _ | apply Drawn0.step)⟩

-- NOT PRINTED: function 47 (block_Block_All)

-- NOT PRINTED: function 21 (screelaw9_given)

-- NOT PRINTED: function 22 (block_Block_Seek)

/-! ### screeref9_Seek: function 23 -/
def screeref9_Seek.l0 : Nat → List (S30) → ByteArray → Int → Option (ByteArray × Int × Bool × ByteArray × Bool)
  | 0, _, _, _ => none
  | k + 1, x0, x1, x6 => if x6 < (x0.length : Int) then (if 0 ≤ x6 then ((screeref9_Above.f k x1 ((rd_T30 x0 x6).f0)).bind fun t301 => (if t301 = true then (screeref9_Seek.l0 k x0 x1 (wrap64 (x6 + 1))) else (some ((rd_T30 x0 x6).f0, (rd_T30 x0 x6).f1, (rd_T30 x0 x6).f2, (rd_T30 x0 x6).f3, true)))) else (none)) else (some ((⟨#[]⟩ : ByteArray), 0, false, (⟨#[]⟩ : ByteArray), false))
def screeref9_Seek.f (k : Nat) (l0 : List (S30)) (a1 : ByteArray) : Option (ByteArray × Int × Bool × ByteArray × Bool) := screeref9_Seek.l0 k l0 a1 0
theorem screeref9_Seek.mono_l : ∀ k, (∀ y0 y1 y2, LeO (screeref9_Seek.l0 k y0 y1 y2) (screeref9_Seek.l0 (k + 1) y0 y1 y2))
  | 0 => fun _ _ _ r h => by simp [screeref9_Seek.l0] at h
  | k + 1 => by
    have ih0 := screeref9_Seek.mono_l k
    · intro y0 y1 y2
      unfold screeref9_Seek.l0
      repeat' first
      | (with_reducible exact ih0 _ _ _)
      | (with_reducible exact screeref9_Above.mono _ _ _)
      | (with_reducible exact LeO.refl _)
      | (with_reducible exact LeO.none _)
      | (with_reducible refine LeO.ite ?_ ?_)
      | (with_reducible refine LeO.bind ?_ (fun _ => ?_))
      | exact ih0 _ _ _
      | exact screeref9_Above.mono _ _ _
      | exact LeO.none _
      | refine LeO.ite ?_ ?_
      | refine LeO.bind ?_ (fun _ => ?_)
theorem screeref9_Seek.mono : ∀ a0 a1 k, LeO (screeref9_Seek.f k a0 a1) (screeref9_Seek.f (k + 1) a0 a1) := by
  intro a0 a1 k
  have ih0 := screeref9_Seek.mono_l k
  unfold screeref9_Seek.f
  repeat' first
      | (with_reducible exact ih0 _ _ _)
      | (with_reducible exact screeref9_Above.mono _ _ _)
      | (with_reducible exact LeO.refl _)
      | (with_reducible exact LeO.none _)
      | (with_reducible refine LeO.ite ?_ ?_)
      | (with_reducible refine LeO.bind ?_ (fun _ => ?_))
      | exact ih0 _ _ _
      | exact screeref9_Above.mono _ _ _
      | exact LeO.none _
      | refine LeO.ite ?_ ?_
      | refine LeO.bind ?_ (fun _ => ?_)
set_option maxHeartbeats 8000000 in
set_option maxRecDepth 100000 in
theorem screeref9_Seek.calls (k : Nat) (A0 : Option Addr) (c0 : Nat) (l0 : List (S30)) (a1 : ByteArray) (r1 : ByteArray) (r2 : Int) (r3 : Bool) (r4 : ByteArray) (r5 : Bool) (w : World) (hr0 : Kd.C k30 w A0 l0.length l0) (hc0 : l0.length ≤ c0) (h : screeref9_Seek.f k l0 a1 = some (r1, r2, r3, r4, r5)) :
    Calls Tryd.prog 23 #[.slice A0 l0.length c0, .string a1] w fun e w' => e = .returned (.tuple #[.agg #[.string r1, .int .u64 r2, .bool r3, .string r4], .bool r5]) ∧ Below w.heap.size w w' := by
  have hu30 := Tryd.underlying30
  have HR0 := Aside0.mk hr0
  have HC0 := Aside0.mk hc0
  clear hr0 hc0
  have HB := Aside0.mk (Below.refl w.heap.size w)
  have H : (screeref9_Seek.l0 k l0 a1 0) = some (r1, r2, r3, r4, r5) := h
  clear h
  have H' := Aside0.mk H
  clear H
  go_enter Tryd.func23, Tryd.ntmps23
  go_wp2_with (first | ((with_reducible refine gate_dst (N := 4) rfl ?_); refine box_event ?hg (N := 4) ?hd (cs := #[.string (⟨#[]⟩ : ByteArray), .int .u64 0, .bool false, .string (⟨#[]⟩ : ByteArray)]) (t := 30) ?hr ?_; (case hd => rfl); (case hg => rfl); (case hr => first | (go_simp; done) | (go_simp; rfl)); intro gb299 hg w3 hbox hb; have n0_ := Aside0.mk (below_step (by repeat (first | (with_reducible first | exact HB.out | apply below_alloc | apply pw_below_drewN | apply below_drew1) | exact HB.out)) hb); have n1_ := Aside0.mk (hbox); have n2_ := Aside0.mk ((by rw [hg]; exact (below_size (by repeat (first | (with_reducible first | exact HB.out | apply below_alloc | apply pw_below_drewN | apply below_drew1) | exact HB.out))) : w.heap.size ≤ gb299)); have n3_ := Aside0.mk ((by rw [hg]; exact (below_size (by repeat (first | (with_reducible first | exact HB.out | apply below_alloc | apply pw_below_drewN | apply below_drew1) | exact HB.out))) : w.heap.size ≤ gb299)); clear HB; have HB := n0_; have BK299 := n1_; have GW299 := n2_; have GE299 := n3_; clear n0_ n1_ n2_ n3_; clear hb hbox hg))
  go_loopg [6] k (fun kq v6 w' => ∃ (x6_1 : Int) (x300000_1 : ByteArray) (x300001_1 : Int) (x300002_1 : Bool) (x300003_1 : ByteArray), v6 = .int .i64 x6_1 ∧ Aside0 (screeref9_Seek.l0 kq l0 a1 x6_1 = some (r1, r2, r3, r4, r5)) ∧ Aside0 (kq ≤ k) ∧ Aside0 (w'.heap[gb299]? = some (.cells #[.string x300000_1, .int .u64 x300001_1, .bool x300002_1, .string x300003_1] 30 (0, 0))) ∧ Aside0 (Below w.heap.size w w'))
  case atStart => exact ⟨(0), ((⟨#[]⟩ : ByteArray)), (0), (false), ((⟨#[]⟩ : ByteArray)), (by first | rfl | (simp; done) | (simp [*]; done)), H', ⟨Nat.le_refl _⟩, ⟨by (with_reducible repeat (first | refine blk_drewN ?_ _ | refine blk_drew ?_ | refine blk_alloc ?_ _)); exact BK299.out⟩, ⟨by repeat (first | (with_reducible first | exact HB.out | apply below_alloc | apply pw_below_drewN | apply below_drew1 | refine below_set ?_ GE299.out) | exact HB.out)⟩⟩
  case round =>
    clear H'
    try clear c2
    try clear p2
    obtain ⟨x6_1, x300000_1, x300001_1, x300002_1, x300003_1, rfl, HA, HK1, BK299, HB⟩ := hrel
    cases gk with
    | zero => exact absurd HA.out (by simp [screeref9_Seek.l0])
    | succ k1 =>
      have H := HA.out
      clear HA
      simp only [screeref9_Seek.l0] at H
      by_cases c4 : x6_1 < (l0.length : Int)
      · rw [if_pos c4] at H
        have c4b0 : decide (x6_1 < (l0.length : Int)) = true := decide_eq_true c4
        clear c4
        by_cases c5 : 0 ≤ x6_1
        · rw [if_pos c5] at H
          have c5b0 : decide (0 ≤ x6_1) = true := decide_eq_true c5
          clear c5
          replace H := Option.bind_eq_some_iff.mp H
          obtain ⟨t301, A60, H⟩ := H
          replace H : (if t301 = true then (screeref9_Seek.l0 k1 l0 a1 (wrap64 (x6_1 + 1))) else (some ((rd_T30 l0 x6_1).f0, (rd_T30 l0 x6_1).f1, (rd_T30 l0 x6_1).f2, (rd_T30 l0 x6_1).f3, true))) = some (r1, r2, r3, r4, r5) := H
          have A6 := Aside0.mk A60
          clear A60
          by_cases c7 : t301 = true
          · subst c7
            have H1 : (screeref9_Seek.l0 k1 l0 a1 (wrap64 (x6_1 + 1))) = some (r1, r2, r3, r4, r5) := by rw [if_pos rfl] at H; exact H
            clear H
            have H := H1
            clear H1
            have H' := Aside0.mk H
            clear H
            have p300 : 0 ≤ (x6_1 : Int) := of_decide_eq_true (by first | (with_reducible assumption) | assumption)
            have q300 : x6_1 < (l0.length : Int) := of_decide_eq_true (by first | (with_reducible assumption) | assumption)
            obtain ⟨ad300, e300, hx300_0, hx300_1, hx300_2, hx300_3⟩ := at_T30 HR0.out x6_1 p300 q300
            cases e300
            replace hx300_0 := (HB.out.cell (World.block_lt_of_cell? w _ hx300_0)).trans hx300_0
            replace hx300_1 := (HB.out.cell (World.block_lt_of_cell? w _ hx300_1)).trans hx300_1
            replace hx300_2 := (HB.out.cell (World.block_lt_of_cell? w _ hx300_2)).trans hx300_2
            replace hx300_3 := (HB.out.cell (World.block_lt_of_cell? w _ hx300_3)).trans hx300_3
            replace p300 := eq_true p300
            replace q300 := eq_true q300
            go_wp2_with (first | ((with_reducible refine gate_callee (f := 33) rfl ?_); refine goesL_ (some 19) rfl rfl Tryd.func33 (by kernel_rfl) rfl #[.string a1, .string ((rd_T30 l0 x6_1).f0)] rfl (by (try simp only [List.map_toArray, List.map_cons, List.map_nil]); first | done | rfl | (simp only [List.length_drop, List.length_take]; rfl)) ?_; (with_reducible refine (screeref9_Above.calls k1 a1 ((rd_T30 l0 x6_1).f0) true _ A6.out).mono ?_); rintro e w8 ⟨rfl, hb⟩; refine ⟨_, rfl, ?_⟩; have n0_ := Aside0.mk (blk_below (g := gb299) (o := .cells #[.string x300000_1, .int .u64 x300001_1, .bool x300002_1, .string x300003_1] 30 (0, 0)) (by (with_reducible repeat (first | refine blk_drewN ?_ _ | refine blk_drew ?_ | refine blk_alloc ?_ _)); exact BK299.out) hb); have n1_ := Aside0.mk (below_step (by repeat (first | (with_reducible first | exact HB.out | apply below_alloc | apply pw_below_drewN | apply below_drew1 | refine below_set ?_ GE299.out) | exact HB.out)) hb); clear BK299; clear HB; have BK299 := n0_; have HB := n1_; clear n0_ n1_; (try clear hb); (try clear hb2); (try clear hk); (try clear hi)))
            go_roundg k1
            case measure => have := HK1.out; omega
            case rel => exact ⟨(wrap64 (x6_1 + 1)), (x300000_1), (x300001_1), (x300002_1), (x300003_1), (by first | rfl | (simp; done) | (simp [*]; done)), H', ⟨by have := HK1.out; omega⟩, ⟨by (with_reducible repeat (first | refine blk_drewN ?_ _ | refine blk_drew ?_ | refine blk_alloc ?_ _)); exact BK299.out⟩, ⟨by repeat (first | (with_reducible first | exact HB.out | apply below_alloc | apply pw_below_drewN | apply below_drew1 | refine below_set ?_ GE299.out) | exact HB.out)⟩⟩
          · replace c7 := Bool.eq_false_iff.mpr c7
            subst c7
            have H1 : (some ((rd_T30 l0 x6_1).f0, (rd_T30 l0 x6_1).f1, (rd_T30 l0 x6_1).f2, (rd_T30 l0 x6_1).f3, true)) = some (r1, r2, r3, r4, r5) := by rw [if_neg (show ¬ (false = true) by decide)] at H; exact H
            clear H
            have H := H1
            clear H1
            simp only [Option.some.injEq, Prod.mk.injEq] at H
            obtain ⟨rfl, rfl, rfl, rfl, rfl⟩ := H
            have p300 : 0 ≤ (x6_1 : Int) := of_decide_eq_true (by first | (with_reducible assumption) | assumption)
            have q300 : x6_1 < (l0.length : Int) := of_decide_eq_true (by first | (with_reducible assumption) | assumption)
            obtain ⟨ad300, e300, hx300_0, hx300_1, hx300_2, hx300_3⟩ := at_T30 HR0.out x6_1 p300 q300
            cases e300
            replace hx300_0 := (HB.out.cell (World.block_lt_of_cell? w _ hx300_0)).trans hx300_0
            replace hx300_1 := (HB.out.cell (World.block_lt_of_cell? w _ hx300_1)).trans hx300_1
            replace hx300_2 := (HB.out.cell (World.block_lt_of_cell? w _ hx300_2)).trans hx300_2
            replace hx300_3 := (HB.out.cell (World.block_lt_of_cell? w _ hx300_3)).trans hx300_3
            replace p300 := eq_true p300
            replace q300 := eq_true q300
            go_wp2_with (first | ((with_reducible refine gate_callee (f := 33) rfl ?_); refine goesL_ (some 19) rfl rfl Tryd.func33 (by kernel_rfl) rfl #[.string a1, .string ((rd_T30 l0 x6_1).f0)] rfl (by (try simp only [List.map_toArray, List.map_cons, List.map_nil]); first | done | rfl | (simp only [List.length_drop, List.length_take]; rfl)) ?_; (with_reducible refine (screeref9_Above.calls k1 a1 ((rd_T30 l0 x6_1).f0) false _ A6.out).mono ?_); rintro e w9 ⟨rfl, hb⟩; refine ⟨_, rfl, ?_⟩; have n0_ := Aside0.mk (blk_below (g := gb299) (o := .cells #[.string x300000_1, .int .u64 x300001_1, .bool x300002_1, .string x300003_1] 30 (0, 0)) (by (with_reducible repeat (first | refine blk_drewN ?_ _ | refine blk_drew ?_ | refine blk_alloc ?_ _)); exact BK299.out) hb); have n1_ := Aside0.mk (below_step (by repeat (first | (with_reducible first | exact HB.out | apply below_alloc | apply pw_below_drewN | apply below_drew1 | refine below_set ?_ GE299.out) | exact HB.out)) hb); clear BK299; clear HB; have BK299 := n0_; have HB := n1_; clear n0_ n1_; (try clear hb); (try clear hb2); (try clear hk); (try clear hi); have p302 : 0 ≤ (x6_1 : Int) := of_decide_eq_true (by first | (with_reducible assumption) | assumption); have q302 : x6_1 < (l0.length : Int) := of_decide_eq_true (by first | (with_reducible assumption) | assumption); obtain ⟨ad302, e302, hx302_0, hx302_1, hx302_2, hx302_3⟩ := at_T30 HR0.out x6_1 p302 q302; obtain rfl : ad300 = ad302 := (by injection e302); replace hx302_0 := (HB.out.cell (World.block_lt_of_cell? w _ hx302_0)).trans hx302_0; replace hx302_1 := (HB.out.cell (World.block_lt_of_cell? w _ hx302_1)).trans hx302_1; replace hx302_2 := (HB.out.cell (World.block_lt_of_cell? w _ hx302_2)).trans hx302_2; replace hx302_3 := (HB.out.cell (World.block_lt_of_cell? w _ hx302_3)).trans hx302_3; replace p302 := eq_true p302; replace q302 := eq_true q302; have hcz10_0 : w9.cell? ⟨gb299, 0, none⟩ = some (.string x300000_1) := (blk_cell BK299.out 0).trans rfl; have hcz10_1 : w9.cell? ⟨gb299, 1, none⟩ = some (.int .u64 x300001_1) := (blk_cell BK299.out 1).trans rfl; have hcz10_2 : w9.cell? ⟨gb299, 2, none⟩ = some (.bool x300002_1) := (blk_cell BK299.out 2).trans rfl; have hcz10_3 : w9.cell? ⟨gb299, 3, none⟩ = some (.string x300003_1) := (blk_cell BK299.out 3).trans rfl; have hfz10_0 := blk_frozen BK299.out 0; have hfz10_1 := blk_frozen BK299.out 1; have hfz10_2 := blk_frozen BK299.out 2; have hfz10_3 := blk_frozen BK299.out 3))
            refine bodyPost_ret (results_ct rfl _ _ gb299 30 #[.string ((rd_T30 l0 x6_1).f0), .int .u64 ((rd_T30 l0 x6_1).f1), .bool ((rd_T30 l0 x6_1).f2), .string ((rd_T30 l0 x6_1).f3)] (0, 0) _ rfl (by (with_reducible repeat (first | refine blk_drewN ?_ _ | refine blk_drew ?_ | refine blk_alloc ?_ _)); refine blk_put (cs := #[.string ((rd_T30 l0 x6_1).f0), .int .u64 ((rd_T30 l0 x6_1).f1), .bool ((rd_T30 l0 x6_1).f2), .string x300003_1]) ?_ 3 _ rfl; (with_reducible repeat (first | refine blk_drewN ?_ _ | refine blk_drew ?_ | refine blk_alloc ?_ _)); refine blk_put (cs := #[.string ((rd_T30 l0 x6_1).f0), .int .u64 ((rd_T30 l0 x6_1).f1), .bool x300002_1, .string x300003_1]) ?_ 2 _ rfl; (with_reducible repeat (first | refine blk_drewN ?_ _ | refine blk_drew ?_ | refine blk_alloc ?_ _)); refine blk_put (cs := #[.string ((rd_T30 l0 x6_1).f0), .int .u64 x300001_1, .bool x300002_1, .string x300003_1]) ?_ 1 _ rfl; (with_reducible repeat (first | refine blk_drewN ?_ _ | refine blk_drew ?_ | refine blk_alloc ?_ _)); refine blk_put (cs := #[.string x300000_1, .int .u64 x300001_1, .bool x300002_1, .string x300003_1]) ?_ 0 _ rfl; (with_reducible repeat (first | refine blk_drewN ?_ _ | refine blk_drew ?_ | refine blk_alloc ?_ _)); exact BK299.out) Tryd.underlying30 rfl (by kernel_rfl)) rfl ?_
            exact ⟨by first | rfl | (simp [errW_none, errW_some] <;> rfl) | (simp [*, errW_none, errW_some] <;> rfl), by repeat (first | (with_reducible first | exact HB.out | apply below_alloc | apply pw_below_drewN | apply below_drew1 | refine below_set ?_ GE299.out) | exact HB.out)⟩
        · rw [if_neg c5] at H
          exact absurd H (by simp)
      · rw [if_neg c4] at H
        have c4b0 : decide (x6_1 < (l0.length : Int)) = false := decide_eq_false c4
        clear c4
        simp only [Option.some.injEq, Prod.mk.injEq] at H
        obtain ⟨rfl, rfl, rfl, rfl, rfl⟩ := H
        have hcz11_0 : wr.cell? ⟨gb299, 0, none⟩ = some (.string x300000_1) := (blk_cell BK299.out 0).trans rfl
        have hcz11_1 : wr.cell? ⟨gb299, 1, none⟩ = some (.int .u64 x300001_1) := (blk_cell BK299.out 1).trans rfl
        have hcz11_2 : wr.cell? ⟨gb299, 2, none⟩ = some (.bool x300002_1) := (blk_cell BK299.out 2).trans rfl
        have hcz11_3 : wr.cell? ⟨gb299, 3, none⟩ = some (.string x300003_1) := (blk_cell BK299.out 3).trans rfl
        have hfz11_0 := blk_frozen BK299.out 0
        have hfz11_1 := blk_frozen BK299.out 1
        have hfz11_2 := blk_frozen BK299.out 2
        have hfz11_3 := blk_frozen BK299.out 3
        go_wp2
        refine bodyPost_ret (results_ct rfl _ _ gb299 30 #[.string (⟨#[]⟩ : ByteArray), .int .u64 0, .bool false, .string (⟨#[]⟩ : ByteArray)] (0, 0) _ rfl (by (with_reducible repeat (first | refine blk_drewN ?_ _ | refine blk_drew ?_ | refine blk_alloc ?_ _)); refine blk_put (cs := #[.string (⟨#[]⟩ : ByteArray), .int .u64 0, .bool false, .string x300003_1]) ?_ 3 _ rfl; (with_reducible repeat (first | refine blk_drewN ?_ _ | refine blk_drew ?_ | refine blk_alloc ?_ _)); refine blk_put (cs := #[.string (⟨#[]⟩ : ByteArray), .int .u64 0, .bool x300002_1, .string x300003_1]) ?_ 2 _ rfl; (with_reducible repeat (first | refine blk_drewN ?_ _ | refine blk_drew ?_ | refine blk_alloc ?_ _)); refine blk_put (cs := #[.string (⟨#[]⟩ : ByteArray), .int .u64 x300001_1, .bool x300002_1, .string x300003_1]) ?_ 1 _ rfl; (with_reducible repeat (first | refine blk_drewN ?_ _ | refine blk_drew ?_ | refine blk_alloc ?_ _)); refine blk_put (cs := #[.string x300000_1, .int .u64 x300001_1, .bool x300002_1, .string x300003_1]) ?_ 0 _ rfl; (with_reducible repeat (first | refine blk_drewN ?_ _ | refine blk_drew ?_ | refine blk_alloc ?_ _)); exact BK299.out) Tryd.underlying30 rfl (by kernel_rfl)) rfl ?_
        exact ⟨by first | rfl | (simp [errW_none, errW_some] <;> rfl) | (simp [*, errW_none, errW_some] <;> rfl), by repeat (first | (with_reducible first | exact HB.out | apply below_alloc | apply pw_below_drewN | apply below_drew1 | refine below_set ?_ GE299.out) | exact HB.out)⟩

/-! ### screeroom_lot: function 81 -/
def screeroom_lot.f (a0 : Int) : Option (Int) := if (Int.tmod a0 2) = 0 then (some (-7701)) else (some (-7702))
set_option maxHeartbeats 8000000 in
set_option maxRecDepth 100000 in
theorem screeroom_lot.calls (a0 : Int) (r : Int) (w : World) (h : screeroom_lot.f a0 = some r) :
    Calls Tryd.prog 81 #[.int .i64 a0] w fun e w' => e = .returned (.int .i64 r) ∧ Drawn0 w w' := by
  have H : (if (Int.tmod a0 2) = 0 then (some (-7701)) else (some (-7702))) = some r := h
  clear h
  by_cases c2 : (Int.tmod a0 2) = 0
  · rw [if_pos c2] at H
    have c2b0 : ((Int.tmod a0 2) == 0) = true := beq_iff_eq.mpr c2
    have c2b1 : ((Int.tmod a0 2) != 0) = false := bne_eq_false_iff_eq.mpr c2
    clear c2
    obtain rfl := Option.some.inj H
    go_enter Tryd.func81, Tryd.ntmps81
    go_wp2
    go_ret
    exact ⟨by first | rfl | (simp; done) | (simp [*]; done), by repeat (first | exact Drawn0.refl _ | apply Drawn0.step)⟩
  · rw [if_neg c2] at H
    have c2b0 : ((Int.tmod a0 2) == 0) = false := beq_eq_false_iff_ne.mpr c2
    have c2b1 : ((Int.tmod a0 2) != 0) = true := bne_iff_ne.mpr c2
    obtain rfl := Option.some.inj H
    go_enter Tryd.func81, Tryd.ntmps81
    go_wp2
    go_ret
    exact ⟨by first | rfl | (simp; done) | (simp [*]; done), by repeat (first | exact Drawn0.refl _ | apply Drawn0.step)⟩

-- NOT PRINTED: function 49 (screeroom_Room_layBytes)

-- NOT PRINTED: function 27 (screeroom_Room_Bytes)

-- NOT PRINTED: function 50 (screeroom_Room_holdBytes)

-- NOT PRINTED: function 51 (screeroom_Room_holdInts)

-- NOT PRINTED: function 52 (screeroom_Room_holdNums)

/-! ### screeroom_word: function 82 -/
def screeroom_word.f (a0 : Int) : Option (ByteArray) := if (Int.tmod a0 2) = 0 then (some (⟨#[60, 111, 110, 101, 62]⟩ : ByteArray)) else (some (⟨#[60, 116, 119, 111, 62]⟩ : ByteArray))
set_option maxHeartbeats 8000000 in
set_option maxRecDepth 100000 in
theorem screeroom_word.calls (a0 : Int) (r : ByteArray) (w : World) (h : screeroom_word.f a0 = some r) :
    Calls Tryd.prog 82 #[.int .i64 a0] w fun e w' => e = .returned (.string r) ∧ Drawn0 w w' := by
  have H : (if (Int.tmod a0 2) = 0 then (some (⟨#[60, 111, 110, 101, 62]⟩ : ByteArray)) else (some (⟨#[60, 116, 119, 111, 62]⟩ : ByteArray))) = some r := h
  clear h
  by_cases c2 : (Int.tmod a0 2) = 0
  · rw [if_pos c2] at H
    have c2b0 : ((Int.tmod a0 2) == 0) = true := beq_iff_eq.mpr c2
    have c2b1 : ((Int.tmod a0 2) != 0) = false := bne_eq_false_iff_eq.mpr c2
    clear c2
    obtain rfl := Option.some.inj H
    go_enter Tryd.func82, Tryd.ntmps82
    go_wp2
    go_ret
    exact ⟨by first | rfl | (simp; done) | (simp [*]; done), by repeat (first | exact Drawn0.refl _ | apply Drawn0.step)⟩
  · rw [if_neg c2] at H
    have c2b0 : ((Int.tmod a0 2) == 0) = false := beq_eq_false_iff_ne.mpr c2
    have c2b1 : ((Int.tmod a0 2) != 0) = true := bne_iff_ne.mpr c2
    obtain rfl := Option.some.inj H
    go_enter Tryd.func82, Tryd.ntmps82
    go_wp2
    go_ret
    exact ⟨by first | rfl | (simp; done) | (simp [*]; done), by repeat (first | exact Drawn0.refl _ | apply Drawn0.step)⟩

-- NOT PRINTED: function 53 (screeroom_Room_holdTexts)

-- NOT PRINTED: function 54 (screeroom_Room_holdEntries)

-- NOT PRINTED: function 55 (screeroom_Room_holdPairs)

-- NOT PRINTED: function 56 (screeroom_Room_holdWrites)

-- NOT PRINTED: function 57 (screeroom_Room_holdTables)

-- NOT PRINTED: function 58 (screeroom_Room_holdPlaces)

-- NOT PRINTED: function 59 (screeroom_Room_holdPlaceds)

-- NOT PRINTED: function 60 (screeroom_Room_holdChunks)

-- NOT PRINTED: function 61 (screeroom_Room_holdGroups)

-- NOT PRINTED: function 62 (screeroom_Room_holdFiles)

-- NOT PRINTED: function 63 (screeroom_Room_holdSteps)

-- NOT PRINTED: function 28 (screeroom_Room_Hold)

-- NOT PRINTED: function 29 (screelaw9_anew)

-- NOT PRINTED: function 30 (screelaw9_again)

-- NOT PRINTED: function 9 (screelaw9_opens)

-- NOT PRINTED: function 3 (screelaw9_BlockOpens)

/-- A state of type 91 at block g of W; what its slices lead to came in by w0. -/
def IsS91 (w0 W : World) (g : Nat) (f0 : Int) : Prop := W.heap[g]? = some (.cells #[.int .i64 f0] 91 (0, 0)) ∧ w0.heap.size ≤ g
theorem IsS91.grown {w0 W : World} {g : Nat} {f0 : Int} {W1 : World} {row : Option Nat} (h : IsS91 w0 W g f0) (hw : W.grownBy W1 row) (hne : some g ≠ row) : IsS91 w0 W1 g f0 := by
  obtain ⟨hb, hg⟩ := h
  exact ⟨blk_grown hb hw hne, hg⟩
theorem IsS91.own_neN {w0 W : World} {g : Nat} {f0 : Int} {α : Type} {d : Kd α} {e : Nat} {base : Nat} {ok : Nat → Prop} {v : Value} {xs : List α} (h : IsS91 w0 W g f0) (ho : Kd.N d e W base ok v xs) (ht : e ≠ 91) : some g ≠ v.ownBlock := by
  obtain ⟨hb, hg⟩ := h
  exact Kd.N_ne ho hb ht
theorem IsS91.fresh {w0 W : World} {g : Nat} {f0 : Int} (h : IsS91 w0 W g f0) : ∀ k, W.heap.size ≤ k → k ≠ g := by
  obtain ⟨hb, hg⟩ := h
  exact Kd.freshB hb
theorem IsS91.kept {w0 W : World} {g : Nat} {f0 : Int} {W1 : World} {S : Nat → Prop} (h : IsS91 w0 W g f0) (hk : Kept W W1 S) (hne : ¬ S g) : IsS91 w0 W1 g f0 := by
  obtain ⟨hb, hg⟩ := h
  exact ⟨blk_kept hb hk hne, hg⟩
theorem IsS91.below {w0 W : World} {g : Nat} {f0 : Int} {W1 : World} (h : IsS91 w0 W g f0) (hw : Below W.heap.size W W1) : IsS91 w0 W1 g f0 := h.grown (grown_of_below hw none) (by simp)
theorem IsS91.alloc {w0 W : World} {g : Nat} {f0 : Int} (h : IsS91 w0 W g f0) (o : Obj) : IsS91 w0 (W.alloc o) g f0 := h.below (below_alloc (Below.refl _ _) o)
theorem IsS91.drewN {w0 W : World} {g : Nat} {f0 : Int} (h : IsS91 w0 W g f0) (m : Nat) : IsS91 w0 (W.drewN m) g f0 := h
theorem IsS91.drew {w0 W : World} {g : Nat} {f0 : Int} (h : IsS91 w0 W g f0) : IsS91 w0 W.drew g f0 := h
theorem IsS91.at_ {w0 W : World} {g : Nat} {f0 : Int} {w' : World} {m : Nat} (hq : W.drewN m = w') (h : IsS91 w0 W g f0) : IsS91 w0 w' g f0 := by subst hq; exact IsS91.drewN h m
theorem IsS91.apart {w0 W : World} {g : Nat} {f0 : Int} {α : Type} {d : Kd α} {e : Nat} {base : Nat} {ok : Nat → Prop} {v : Value} {xs : List α} (h : IsS91 w0 W g f0) (ho : d.R e W base ok v xs) (ht : ∀ q, q ∈ e :: d.E → q ≠ 91) : d.R e W base (fun k => ok k ∧ k ≠ g) v xs := by
  obtain ⟨hb, hg⟩ := h
  exact Kd.R_types ho hb ht
theorem IsS91.own_ne {w0 W : World} {g : Nat} {f0 : Int} {α : Type} {d : Kd α} {e : Nat} {base : Nat} {ok : Nat → Prop} {v : Value} {xs : List α} (h : IsS91 w0 W g f0) (ho : d.R e W base ok v xs) (ht : e ≠ 91) : some g ≠ v.ownBlock := by
  obtain ⟨hb, hg⟩ := h
  exact Kd.R_ne ho hb ht
theorem IsS91.apartQ {w0 W : World} {g : Nat} {f0 : Int} {α : Type} {d : Kd α} {e : Nat} {base : Nat} {ok : Nat → Prop} {v : Value} {xs : List α} (h : IsS91 w0 W g f0) (ho : d.Q e W base ok v xs) (ht : ∀ q, q ∈ e :: d.E → q ≠ 91) : d.Q e W base (fun k => ok k ∧ k ≠ g) v xs := by
  obtain ⟨hb, hg⟩ := h
  exact Kd.Q_types ho hb ht
theorem IsS91.own_neQ {w0 W : World} {g : Nat} {f0 : Int} {α : Type} {d : Kd α} {e : Nat} {base : Nat} {ok : Nat → Prop} {v : Value} {xs : List α} (h : IsS91 w0 W g f0) (ho : d.Q e W base ok v xs) (ht : e ≠ 91) : some g ≠ v.ownBlock := by
  obtain ⟨hb, hg⟩ := h
  exact Kd.Q_ne ho hb ht
theorem IsS91.apartS {w0 W : World} {g : Nat} {f0 : Int} {α : Type} {d : Kd α} {e : Nat} {base : Nat} {ok : Nat → Prop} {v : Value} {xs : List α} (h : IsS91 w0 W g f0) (ho : d.S e W base ok v xs) (ht : ∀ q, q ∈ e :: d.E → q ≠ 91) : d.S e W base (fun k => ok k ∧ k ≠ g) v xs := by
  obtain ⟨hb, hg⟩ := h
  exact Kd.S_types ho hb ht
theorem IsS91.own_neS {w0 W : World} {g : Nat} {f0 : Int} {α : Type} {d : Kd α} {e : Nat} {base : Nat} {ok : Nat → Prop} {v : Value} {xs : List α} (h : IsS91 w0 W g f0) (ho : d.S e W base ok v xs) (ht : e ≠ 91) : some g ≠ v.ownBlock := by
  obtain ⟨hb, hg⟩ := h
  exact Kd.S_ne ho hb ht
theorem IsS91.lt {w0 W : World} {g : Nat} {f0 : Int} (h : IsS91 w0 W g f0) : g < W.heap.size := by
  obtain ⟨hb, hg⟩ := h
  exact blk_lt hb
theorem IsS91.ge {w0 W : World} {g : Nat} {f0 : Int} (h : IsS91 w0 W g f0) : w0.heap.size ≤ g := by
  obtain ⟨hb, hg⟩ := h
  exact hg
theorem IsS91.ne_blk {w0 W : World} {g : Nat} {f0 : Int} {a : Nat} {cs : Array Value} {t : TypeId} {fr : Nat × Nat} (h : IsS91 w0 W g f0) (hb2 : W.heap[a]? = some (.cells cs t fr)) (ht : t ≠ 91) : g ≠ a := by
  obtain ⟨hb, hg⟩ := h
  rintro rfl
  rw [hb] at hb2
  injection hb2 with hb2
  injection hb2 with _ ht2
  exact ht ht2.symm
theorem IsS91.far {w0 W : World} {g : Nat} {f0 : Int} {p : Addr} (h : IsS91 w0 W g f0) (hne : g ≠ p.block) (u : Value) : IsS91 w0 (W.setCell p u) g f0 := by
  obtain ⟨hb, hg⟩ := h
  exact ⟨blk_far hb hne u, hg⟩
theorem cellS91_0 {W : World} {g : Nat} {f0 : Int} (h : W.heap[g]? = some (.cells #[.int .i64 f0] 91 (0, 0))) : W.cell? ⟨g, 0, none⟩ = some (.int .i64 f0) := (blk_cell h 0).trans rfl
theorem IsS91.set_0 {w0 W : World} {g : Nat} {f0 : Int} (h : IsS91 w0 W g f0) (x : Int) : IsS91 w0 (W.setCell ⟨g, 0, none⟩ (.int .i64 x)) g x := by
  obtain ⟨hb, hg⟩ := h
  exact ⟨by simpa using blk_set hb 0 (.int .i64 x), hg⟩
theorem IsS91.new (w0 W : World) (f0 : Int) (hB : Below w0.heap.size w0 W) : IsS91 w0 (W.alloc (.cells #[.int .i64 f0] 91)) W.heap.size f0 := ⟨by simpa using heap_alloc_new W _, hB.size⟩

/-! ### screeroom_Many: function 13 -/
def screeroom_Many.f (a0 : Int) : Option (Int) := some a0
set_option maxHeartbeats 8000000 in
set_option maxRecDepth 100000 in
theorem screeroom_Many.calls (a0 : Int) (r : Int) (w0 w : World) (hB : Below w0.heap.size w0 w) (h : screeroom_Many.f a0 = some r) :
    Calls Tryd.prog 13 #[.int .i64 a0] w fun e w' => ∃ g_ : Nat, e = .returned (.pointer (some ⟨g_, 0, none⟩)) ∧ IsS91 w0 w' g_ r ∧ Below w0.heap.size w0 w' ∧ Below w.heap.size w w' := by
  have hu91 := Tryd.underlying91
  have HBW := Aside0.mk (Below.refl w.heap.size w)
  have HW0 := Aside0.mk hB.size
  have HB := Aside0.mk hB
  clear hB
  have H : (some a0) = some r := h
  clear h
  obtain rfl := Option.some.inj H
  go_enter Tryd.func13, Tryd.ntmps13
  go_wp2_with (first | ((with_reducible refine gate_dst (N := 5) rfl ?_); refine box_event ?hg (N := 5) ?hd (cs := #[.int .i64 a0]) (t := 91) ?hr ?_; (case hd => rfl); (case hg => rfl); (case hr => first | (go_simp; done) | (go_simp; rfl)); intro gb402 hg w2 hbox hb; have n0_ := Aside0.mk (below_step HBW.out hb); have n1_ := Aside0.mk (below_step (by repeat (first | (with_reducible first | exact HB.out | apply below_alloc | apply pw_below_drewN | apply below_drew1) | exact HB.out)) hb); have n2_ := Aside0.mk (hbox); have n3_ := Aside0.mk ((by rw [hg]; exact (below_size (by repeat (first | (with_reducible first | exact HBW.out | apply below_alloc | apply pw_below_drewN | apply below_drew1) | exact HBW.out))) : w.heap.size ≤ gb402)); have n4_ := Aside0.mk ((Nat.le_trans HW0.out (by rw [hg]; exact (below_size (by repeat (first | (with_reducible first | exact HBW.out | apply below_alloc | apply pw_below_drewN | apply below_drew1) | exact HBW.out))) : w.heap.size ≤ gb402) : w0.heap.size ≤ gb402)); clear HBW; clear HB; have HBW := n0_; have HB := n1_; have BK402 := n2_; have GW402 := n3_; have GE402 := n4_; clear n0_ n1_ n2_ n3_ n4_; clear hb hbox hg))
  go_ret
  exact ⟨_, rfl, (show IsS91 w0 _ gb402 a0 from ⟨by (with_reducible repeat (first | refine blk_drewN ?_ _ | refine blk_drew ?_ | refine blk_alloc ?_ _)); exact BK402.out, GE402.out⟩), by repeat (first | (with_reducible first | exact HB.out | apply below_alloc | apply pw_below_drewN | apply below_drew1 | refine below_set ?_ GE402.out) | exact HB.out), by repeat (first | (with_reducible first | exact HBW.out | apply below_alloc | apply pw_below_drewN | apply below_drew1 | refine below_set ?_ GW402.out) | exact HBW.out)⟩

/-! ### screeroom_Count_Ok: function 15 -/
def screeroom_Count_Ok.f (s0_0 : Int) : Option (Bool × Int) := some (decide (s0_0 ≥ 0), s0_0)
set_option maxHeartbeats 8000000 in
set_option maxRecDepth 100000 in
theorem screeroom_Count_Ok.calls (g : Nat) (s0_0 : Int) (r1 : Bool) (r2 : Int) (w0 w : World) (hI : IsS91 w0 w g s0_0) (hB : Below w0.heap.size w0 w) (h : screeroom_Count_Ok.f s0_0 = some (r1, r2)) :
    Calls Tryd.prog 15 #[.pointer (some ⟨g, 0, none⟩)] w fun e w' => e = .returned (.bool r1) ∧ IsS91 w0 w' g r2 ∧ Below w0.heap.size w0 w' ∧ KeepBut w w' g none := by
  have HI0 := Aside0.mk hI
  have HK := Aside0.mk (KeepBut.refl w g none)
  have HL := Aside0.mk hB.size
  clear hI
  have HW0 := Aside0.mk hB.size
  have HB := Aside0.mk hB
  clear hB
  have H : (some (decide (s0_0 ≥ 0), s0_0)) = some (r1, r2) := h
  clear h
  simp only [Option.some.injEq, Prod.mk.injEq] at H
  obtain ⟨rfl, rfl⟩ := H
  obtain ⟨HGz2, hgz2⟩ := HI0.out
  have hcz2_0 := cellS91_0 HGz2
  have hfz2_0 := blk_frozen HGz2 0
  clear HGz2 hgz2
  go_enter Tryd.func15, Tryd.ntmps15
  go_wp2
  go_ret
  exact ⟨by first | rfl | (simp [errW_none, errW_some] <;> rfl) | (simp [*, errW_none, errW_some] <;> rfl), by repeat (first | (with_reducible first | exact HI0.out | apply IsS91.alloc | apply IsS91.drewN | apply IsS91.drew | apply IsS91.set_0) | exact HI0.out), by repeat (first | (with_reducible first | exact HB.out | apply below_alloc | apply pw_below_drewN | apply below_drew1 | refine below_set ?_ (IsS91.ge HI0.out)) | exact HB.out), by repeat (first | (with_reducible first | exact HK.out | apply KeepBut.set_ | apply keep_drewN | apply keep_drew | apply keep_alloc) | exact HK.out)⟩

/-! ### screeroom_Count_Add: function 38 -/
def screeroom_Count_Add.f (s0_0 : Int) (a1 : Int) : Option (Bool × Int) := if s0_0 ≥ 0 then (some (decide ((wrap64 (s0_0 - a1)) ≥ 0), wrap64 (s0_0 - a1))) else (some (decide (s0_0 ≥ 0), s0_0))
set_option maxHeartbeats 8000000 in
set_option maxRecDepth 100000 in
theorem screeroom_Count_Add.calls (g : Nat) (s0_0 : Int) (a1 : Int) (r1 : Bool) (r2 : Int) (w0 w : World) (hI : IsS91 w0 w g s0_0) (hB : Below w0.heap.size w0 w) (h : screeroom_Count_Add.f s0_0 a1 = some (r1, r2)) :
    Calls Tryd.prog 38 #[.pointer (some ⟨g, 0, none⟩), .int .i64 a1] w fun e w' => e = .returned (.bool r1) ∧ IsS91 w0 w' g r2 ∧ Below w0.heap.size w0 w' ∧ KeepBut w w' g none := by
  have HI0 := Aside0.mk hI
  have HK := Aside0.mk (KeepBut.refl w g none)
  have HL := Aside0.mk hB.size
  clear hI
  have HW0 := Aside0.mk hB.size
  have HB := Aside0.mk hB
  clear hB
  have H : (if s0_0 ≥ 0 then (some (decide ((wrap64 (s0_0 - a1)) ≥ 0), wrap64 (s0_0 - a1))) else (some (decide (s0_0 ≥ 0), s0_0))) = some (r1, r2) := h
  clear h
  by_cases c3 : s0_0 ≥ 0
  · rw [if_pos c3] at H
    have c3b0 : decide (0 ≤ s0_0) = true := decide_eq_true c3
    clear c3
    simp only [Option.some.injEq, Prod.mk.injEq] at H
    obtain ⟨rfl, rfl⟩ := H
    obtain ⟨HGz4, hgz4⟩ := HI0.out
    have hcz4_0 := cellS91_0 HGz4
    have hfz4_0 := blk_frozen HGz4 0
    clear HGz4 hgz4
    go_enter Tryd.func38, Tryd.ntmps38
    go_wp2
    go_ret
    exact ⟨by first | rfl | (simp [errW_none, errW_some] <;> rfl) | (simp [*, errW_none, errW_some] <;> rfl), by repeat (first | (with_reducible first | exact HI0.out | apply IsS91.alloc | apply IsS91.drewN | apply IsS91.drew | apply IsS91.set_0) | exact HI0.out), by repeat (first | (with_reducible first | exact HB.out | apply below_alloc | apply pw_below_drewN | apply below_drew1 | refine below_set ?_ (IsS91.ge HI0.out)) | exact HB.out), by repeat (first | (with_reducible first | exact HK.out | apply KeepBut.set_ | apply keep_drewN | apply keep_drew | apply keep_alloc) | exact HK.out)⟩
  · rw [if_neg c3] at H
    have c3b0 : decide (0 ≤ s0_0) = false := decide_eq_false c3
    clear c3
    simp only [Option.some.injEq, Prod.mk.injEq] at H
    obtain ⟨rfl, rfl⟩ := H
    obtain ⟨HGz5, hgz5⟩ := HI0.out
    have hcz5_0 := cellS91_0 HGz5
    have hfz5_0 := blk_frozen HGz5 0
    clear HGz5 hgz5
    go_enter Tryd.func38, Tryd.ntmps38
    go_wp2
    go_ret
    exact ⟨by first | rfl | (simp [errW_none, errW_some] <;> rfl) | (simp [*, errW_none, errW_some] <;> rfl), by repeat (first | (with_reducible first | exact HI0.out | apply IsS91.alloc | apply IsS91.drewN | apply IsS91.drew | apply IsS91.set_0) | exact HI0.out), by repeat (first | (with_reducible first | exact HB.out | apply below_alloc | apply pw_below_drewN | apply below_drew1 | refine below_set ?_ (IsS91.ge HI0.out)) | exact HB.out), by repeat (first | (with_reducible first | exact HK.out | apply KeepBut.set_ | apply keep_drewN | apply keep_drew | apply keep_alloc) | exact HK.out)⟩

/-! ### screeroom_Count_Text: function 64 -/
def screeroom_Count_Text.f (s0_0 : Int) (a1 : ByteArray) : Option (Int) := (screeroom_Count_Add.f s0_0 (wrap64 (1 + (a1.size : Int)))).bind fun bt403 => (some bt403.2)
set_option maxHeartbeats 8000000 in
set_option maxRecDepth 100000 in
theorem screeroom_Count_Text.calls (g : Nat) (s0_0 : Int) (a1 : ByteArray) (r : Int) (w0 w : World) (hI : IsS91 w0 w g s0_0) (hB : Below w0.heap.size w0 w) (h : screeroom_Count_Text.f s0_0 a1 = some r) :
    Calls Tryd.prog 64 #[.pointer (some ⟨g, 0, none⟩), .string a1] w fun e w' => e = .returned (.tuple #[]) ∧ IsS91 w0 w' g r ∧ Below w0.heap.size w0 w' ∧ KeepBut w w' g none := by
  have HI0 := Aside0.mk hI
  have HK := Aside0.mk (KeepBut.refl w g none)
  have HL := Aside0.mk hB.size
  clear hI
  have HW0 := Aside0.mk hB.size
  have HB := Aside0.mk hB
  clear hB
  have H : ((screeroom_Count_Add.f s0_0 (wrap64 (1 + (a1.size : Int)))).bind fun bt403 => (some bt403.2)) = some r := h
  clear h
  replace H := Option.bind_eq_some_iff.mp H
  obtain ⟨⟨t403, t404⟩, A30, H⟩ := H
  replace H : (some t404) = some r := H
  have A3 := Aside0.mk A30
  clear A30
  obtain rfl := Option.some.inj H
  go_enter Tryd.func64, Tryd.ntmps64
  go_wp2_with (first | ((with_reducible refine gate_callee (f := 38) rfl ?_); refine goesL_ (some 8) rfl rfl Tryd.func38 (by kernel_rfl) rfl #[.pointer (some ⟨g, 0, none⟩), .int .i64 (wrap64 (1 + (a1.size : Int)))] rfl (by (try simp only [List.map_toArray, List.map_cons, List.map_nil]); first | done | rfl | (simp only [List.length_drop, List.length_take]; rfl)) ?_; (with_reducible refine (screeroom_Count_Add.calls g s0_0 (wrap64 (1 + (a1.size : Int))) t403 t404 w0 _ ?side1 ?side2 A3.out).mono ?_); (case side1 => repeat (first | (with_reducible first | exact HI0.out | apply IsS91.alloc | apply IsS91.drewN | apply IsS91.drew | apply IsS91.set_0) | exact HI0.out)); (case side2 => repeat (first | (with_reducible first | exact HB.out | apply below_alloc | apply pw_below_drewN | apply below_drew1 | refine below_set ?_ (IsS91.ge HI0.out)) | exact HB.out)); rintro e w4 ⟨rfl, hi, hb, hk⟩; refine ⟨_, rfl, ?_⟩; have n0_ := Aside0.mk (KeepBut.trans (by repeat (first | (with_reducible first | exact HK.out | apply KeepBut.set_ | apply keep_drewN | apply keep_drew | apply keep_alloc) | exact HK.out)) hk (.inl rfl)); have n1_ := Aside0.mk (hb); have n2_ := Aside0.mk (hi); clear HK; clear HB; clear HI0; have HK := n0_; have HB := n1_; have HI0 := n2_; clear n0_ n1_ n2_; (try clear hb); (try clear hb2); (try clear hk); (try clear hi)))
  first | go_end0 | ((try simp only [Exit.inBlock, Exit.then]); refine bodyPost_ret (results_none rfl _ _ _) rfl ?_)
  exact ⟨by first | rfl | (simp [errW_none, errW_some] <;> rfl) | (simp [*, errW_none, errW_some] <;> rfl), by repeat (first | (with_reducible first | exact HI0.out | apply IsS91.alloc | apply IsS91.drewN | apply IsS91.drew | apply IsS91.set_0) | exact HI0.out), by repeat (first | (with_reducible first | exact HB.out | apply below_alloc | apply pw_below_drewN | apply below_drew1 | refine below_set ?_ (IsS91.ge HI0.out)) | exact HB.out), by repeat (first | (with_reducible first | exact HK.out | apply KeepBut.set_ | apply keep_drewN | apply keep_drew | apply keep_alloc) | exact HK.out)⟩

end Go.Proofs.YtaonjmkfbfhanaaDoor.QBo
/- The laws' own comparisons, as contracts (this claim's own lemmas). -/
namespace Go.Proofs.YtaonjmkfbfhanaaDoor.Bk
open Go.RowKit Go.Proofs.YtaonjmkfbfhanaaDoorW.PrintWords Go.Proofs.YtaonjmkfbfhanaaDoor.Own Go.Proofs.YtaonjmkfbfhanaaDoor.G Go.Proofs.YtaonjmkfbfhanaaDoor.Wk Go.Proofs.YtaonjmkfbfhanaaDoor.QBo
set_option linter.unusedVariables false
theorem same_l0 (l : List En) (hl : l.length ≤ 1000000000) : ∀ (d i : Nat), i + d = l.length → screelaw9_sameEntries.l0 (d + 1) l l (i : Int) = some true
  | 0, i, h => by
    unfold screelaw9_sameEntries.l0
    rw [if_neg (by omega)]
  | d + 1, i, h => by
    unfold screelaw9_sameEntries.l0
    rw [if_pos (by omega), if_pos (by omega), if_pos (by omega), if_neg (by simp)]
    have e : wrap64 ((i : Int) + 1) = ((i + 1 : Nat) : Int) := by unfold wrap64; omega
    rw [e]
    exact same_l0 l hl d (i + 1) (by omega)
theorem sameEntries_calls {w : World} {A1 A2 : Option Addr} {n1 c1 n2 c2 : Nat} {l : List En} (h1 : Kd.C kE w A1 n1 l) (hc1 : n1 ≤ c1) (h2 : Kd.C kE w A2 n2 l) (hc2 : n2 ≤ c2) (hl : l.length ≤ 1000000000) :
    Calls Tryd.prog 20 #[.slice A1 n1 c1, .slice A2 n2 c2] w fun e w' => e = .returned (.bool true) ∧ Below w.heap.size w w' := by
  have e1 : l.length = n1 := h1.1
  have e2 : l.length = n2 := h2.1
  subst e1
  subst e2
  refine (screelaw9_sameEntries.calls (l.length + 1) A1 c1 l A2 c2 l true w h1 hc1 h2 hc2 (by unfold screelaw9_sameEntries.f; rw [if_pos rfl]; exact same_l0 l hl l.length 0 (by omega))).mono ?_
  rintro e w' ⟨rfl, h⟩
  exact ⟨rfl, by first | exact h | exact h.below⟩
theorem same_calls {w : World} {A1 A2 : Option Addr} {n1 c1 n2 c2 : Nat} {l1 l2 : List Int} (h1 : Rd (Kd.int .u8) w A1 n1 c1 l1) (h2 : Rd (Kd.int .u8) w A2 n2 c2 l2) (hl : l1.length ≤ 1000000000) :
    Calls Tryd.prog 18 #[.slice A1 n1 c1, .slice A2 n2 c2] w fun e w' => e = .returned (.bool (decide (l1 = l2))) ∧ Below w.heap.size w w' := by
  obtain ⟨e1, hc1, h1⟩ := h1
  obtain ⟨e2, hc2, h2⟩ := h2
  subst e1
  subst e2
  refine (screelaw9_same.calls A1 c1 l1 A2 c2 l2 (decide (l1 = l2)) w h1 hc1 h2 hc2 (by unfold screelaw9_same.f; rw [if_pos (by omega)])).mono ?_
  rintro e w' ⟨rfl, h⟩
  exact ⟨rfl, by first | exact h | exact h.below⟩
end Go.Proofs.YtaonjmkfbfhanaaDoor.Bk
/- screelaw9.made (this claim's own lemmas). -/
namespace Go.Proofs.YtaonjmkfbfhanaaDoor.Bk
open Go.RowKit Go.Proofs.YtaonjmkfbfhanaaDoorW.PrintWords Go.Proofs.YtaonjmkfbfhanaaDoor.Own Go.Proofs.YtaonjmkfbfhanaaDoor.G Go.Proofs.YtaonjmkfbfhanaaDoor.Wk Go.Proofs.YtaonjmkfbfhanaaDoor.QBo
set_option linter.unusedVariables false
theorem num_calls (c : Int) (w : World) : Calls Tryd.prog 19 #[.int .i64 c] w fun e w' => e = .returned (.int .i64 c) ∧ w' = w := by
  go_enter Tryd.func19, Tryd.ntmps19
  go_wp2_with fail
  go_ret
  exact ⟨rfl, rfl⟩
theorem kE_typed {q : Nat} (h : q ∈ 30 :: kE.E) : q = 30 := by
  rcases List.mem_cons.1 h with h | h
  · exact h
  · exact absurd h List.not_mem_nil
theorem row_other {W W' : World} {b gm g : Nat} {m m' : Mk} {v1 v2 v : Value} {es : List En} (h : kE.R 30 W b (fun _ => True) v es) (hM : MkAt W gm g m v1 v2) (hS : MkS W W' gm g (mkF g v1 v2) m') : kE.R 30 W' b (fun _ => True) v es := by
  obtain ⟨a1, a2, a3, a4, a5, a6⟩ := hS
  refine Kd.R_mono (Kd.R_move (Kd.R_bound h) (fun k hk => ?_)) (fun _ _ => trivial)
  obtain ⟨_, _, hlt, q, hq, cs, hc⟩ := hk
  have hq' := kE_typed hq
  subst hq'
  exact a5 k hlt (hM.other hc (by decide) (by decide) (by decide))
theorem row_typed {W : World} {b : Nat} {v : Value} {es : List En} {ok : Nat → Prop} (h : kE.R 30 W b ok v es) : ∀ k, v.ownBlock = some k → ∃ cs, W.heap[k]? = some (.cells cs 30 (0, 0)) := fun k hk => by
  obtain ⟨_, _, _, q, hq, cs, hc⟩ := (Kd.R_bound h).1 k hk
  have hq' := kE_typed hq
  subst hq'
  exact ⟨cs, hc⟩
theorem MkAt.grown {W W1 : World} {base g : Nat} {m : Mk} {v1 v2 : Value} {row : Option Nat} (h : MkAt W base g m v1 v2) (hg : W.grownBy W1 row) (hr : ∀ k, row = some k → ∃ cs, W.heap[k]? = some (.cells cs 30 (0, 0))) : MkAt W1 base g m v1 v2 := by
  obtain ⟨h1, h2, h3, h4⟩ := h
  refine ⟨(hg.block g (blk_lt h1) (fun e => ?_)).trans h1, h2, Kd.R_mono (Kd.R_step (Kd.R_bound h3) (fun k hk hlt => ?_)) (fun _ _ => trivial), Kd.R_mono (Kd.R_step (Kd.R_bound h4) (fun k hk hlt => ?_)) (fun _ _ => trivial)⟩
  · obtain ⟨cs, hc⟩ := hr g e.symm
    rw [h1] at hc; injection hc with hc; injection hc with _ e3; exact absurd e3 (by decide)
  · obtain ⟨_, _, _, q, hq, cs, hc⟩ := hk
    have hq' : q = 5 := by
      rcases List.mem_cons.1 hq with h | h
      · exact h
      · exact absurd h List.not_mem_nil
    subst hq'
    exact hg.block k hlt (fun e => by
      obtain ⟨c2, e2⟩ := hr k e.symm
      rw [hc] at e2; injection e2 with e2; injection e2 with _ e3; exact absurd e3 (by decide))
  · obtain ⟨_, _, _, q, hq, cs, hc⟩ := hk
    have hq' : q = 3 := by
      rcases List.mem_cons.1 hq with h | h
      · exact h
      · exact absurd h List.not_mem_nil
    subst hq'
    exact hg.block k hlt (fun e => by
      obtain ⟨c2, e2⟩ := hr k e.symm
      rw [hc] at e2; injection e2 with e2; injection e2 with _ e3; exact absurd e3 (by decide))
theorem addM_err {m : Mk} {e : En} (h : (addM m e).1 ≠ 0) : (addM m e).2 = m := by
  unfold addM at h ⊢
  split
  · rfl
  · split
    · rfl
    · rename_i h1 h2
      rw [if_neg h1, if_neg h2] at h
      exact absurd rfl h
def MadePost (w : World) (r : Int) (l : List En) (e : Ending) (w' : World) : Prop :=
  ∃ A n c v, e = .returned (.tuple #[.slice A n c, v, .bool true]) ∧ Rd (Kd.int .u8) w' A n c (bytesM (madeM (newM r) l).2) ∧ kE.R 30 w' w.heap.size (fun _ => True) v (madeM (newM r) l).1 ∧ Below w.heap.size w w'
set_option maxHeartbeats 8000000 in
set_option maxRecDepth 100000 in
theorem made_calls {w : World} {A : Option Addr} {n c : Nat} {l : List En} (r : Int) (hr : r ≤ 9223372036854775807) (h : Kd.C kE w A n l) (hw : ∀ e ∈ l, EnW e) (hl : n ≤ 1000000) (hT : GT w) :
    Calls Tryd.prog 25 #[.int .i64 r, .slice A n c] w (MadePost w r l) := by
  have HC := Aside0.mk h
  have hn : l.length = n := h.1
  have HW := Aside0.mk hw
  have HT := Aside0.mk hT
  have hrs : rsOf r ≤ 9223372036854775807 ∧ 1 ≤ rsOf r := by unfold rsOf; split <;> omega
  clear h hw hT
  go_enter Tryd.func25, Tryd.ntmps25
  go_wp2_with fail
  refine (new_calls r w).mono ?_
  rintro en W1 ⟨v1, v2, rfl, hM1, hb1⟩
  obtain ⟨g, hg⟩ : ∃ g, w.heap.size = g := ⟨_, rfl⟩
  rw [hg] at hM1
  have HG := Aside0.mk hg
  have HM1 := Aside0.mk hM1
  have HB1 := Aside0.mk hb1
  rw [hg]
  clear hM1 hb1 hg
  go_wp2_with fail
  go_loopw [8, 9] (fun s8 s9 wr => ∃ (k : Nat) (mm : Mk) (ins : List En), s9 = .int .i64 (k : Int) ∧ k ≤ n ∧ ins.length ≤ k ∧ Aside0 (GoodM r mm ins.length) ∧ Aside0 (madeM (newM r) l = (ins ++ (madeM mm (l.drop k)).1, (madeM mm (l.drop k)).2)) ∧ Aside0 (∃ v1 v2, MkAt wr g g mm v1 v2) ∧ Aside0 (kE.R 30 wr g (fun _ => True) s8 ins) ∧ Aside0 (Below w.heap.size w wr)) (fun _ s9 _ => n - (intOf s9).toNat)
  case atStart => exact ⟨0, newM r, [], rfl, Nat.zero_le _, Nat.zero_le _, ⟨goodM_new _⟩, ⟨rfl⟩, ⟨_, _, HM1.out⟩, ⟨Kd.R_nil _ _ _ _ _⟩, HB1⟩
  case round =>
    clear HM1 HB1
    obtain ⟨k, mm, ins, rfl, hk, hik, HGd, HQ, HMm, HI, HB⟩ := hrel
    obtain ⟨Av, qv, ev⟩ := Kd.R_slice HI.out
    subst ev
    by_cases hlt : k < n
    · obtain ⟨ad, ea, x0, x1, x2, x3⟩ := at_T30 (Kd.C_below HC.out HB.out) (k : Int) (by omega) (by omega)
      subst ea
      obtain ⟨e, he⟩ : ∃ e, rd_T30 l (k : Int) = e := ⟨_, rfl⟩
      rw [he, Int.toNat_natCast] at x0 x1 x2 x3
      have hek : l[k]'(by omega) = e := by rw [← he]; simp [rd_T30, List.getD_eq_getElem?_getD, hn, hlt]
      have HEe : Aside0 (EnW e) := ⟨by rw [← hek]; exact HW.out _ (List.getElem_mem _)⟩
      have HD : Aside0 (l.drop k = e :: l.drop (k + 1)) := ⟨by rw [← hek, ← List.drop_eq_getElem_cons]⟩
      have HEk : Aside0 (rd_T30 l (k : Int) = e) := ⟨he⟩
      obtain ⟨v1, v2, hMm⟩ := HMm.out
      have HM := Aside0.mk hMm
      clear he hek hMm
      have hgd := HGd.out.data
      have hgp := HGd.out.places
      have hgn := HGd.out.n
      have hgr := HGd.out.rs
      have HAd := Aside0.mk (add_calls HM.out HEe.out (by omega) (by omega) (by omega) (by omega) (by omega) HGd.out.last)
      obtain ⟨cd, hcd⟩ : ∃ cd, (addM mm e).1 = cd := ⟨_, rfl⟩
      rw [hcd] at HAd
      have HCd := Aside0.mk hcd
      clear hcd hgd hgp hgn hgr
      by_cases h0 : cd = 0
      · have d0 : (cd == 0) = true := beq_iff_eq.mpr h0
        have HGd2 : Aside0 (GoodM r (addM mm e).2 (ins ++ [e]).length) := ⟨by rw [List.length_append]; exact goodM_step HGd.out (by rw [HCd.out, h0]) HEe.out⟩
        have HQ3 : Aside0 (madeM (newM r) l = ((ins ++ [e]) ++ (madeM (addM mm e).2 (l.drop (k + 1))).1, (madeM (addM mm e).2 (l.drop (k + 1))).2)) := ⟨by
          rw [HQ.out, HD.out]
          conv => lhs; unfold madeM
          rw [if_pos (by rw [HCd.out, h0]), List.append_assoc]
          rfl⟩
        clear h0
        go_wp2_with fail
        refine HAd.out.mono ?_
        rintro en W3 ⟨rfl, hS⟩
        have HI3 := Aside0.mk (row_other HI.out HM.out hS)
        have HB3 : Aside0 (Below w.heap.size w W3) := ⟨HB.out.trans (by rw [HG.out]; exact hS.bel)⟩
        obtain ⟨v1', v2', hM3, -, -, -⟩ := hS
        have HM3 := Aside0.mk hM3
        clear hM3 x0 x1 x2 x3
        go_wp2_with fail
        refine (num_calls cd W3).mono ?_
        rintro en W4 ⟨rfl, rfl⟩
        obtain ⟨ad', ea', x0, x1, x2, x3⟩ := at_T30 (Kd.C_below HC.out HB3.out) (k : Int) (by omega) (by omega)
        injection ea' with ea'
        subst ea'
        rw [HEk.out, Int.toNat_natCast] at x0 x1 x2 x3
        have PL : Aside0 ((ins.length + 1) * 48 ≤ 140737488355328) := ⟨by omega⟩
        have HBg : Aside0 (Below g w W4) := ⟨by rw [← HG.out]; exact HB3.out⟩
        have HGs : Aside0 (g ≤ W4.heap.size) := ⟨by rw [← HG.out]; exact HB3.out.size⟩
        go_wp2_with ((with_reducible refine gate_builtin (b := .append) (xs := #[.tmp 28, .tmp 33]) rfl ?_); at_builtin; go_must (refine Kd.R_append kE (w0 := w) g rfl (.tmp 28) (.tmp 33) 25 30 (.agg #[(.string ⟨#[]⟩), (.int .u64 0), (.bool false), (.string ⟨#[]⟩)]) 48 rfl Tryd.underlying25 info30 rfl (by decide) (by omega) _ ins e [.string e.f0, .int .u64 e.f1, .bool e.f2, .string e.f3] (fun _ => True) (fun _ => False) rfl rfl (k30_mkM _ _ _ e) (fun _ hk => hk.elim) (fun _ _ => trivial) HI3.out HBg.out HGs.out PL.out ?_); intro v5 W5 ho hb hg hat; (have HO5 := Aside0.mk ho); (have HB5 := Aside0.mk hb); (have HM5 := Aside0.mk (HM3.out.grown hg (row_typed HI3.out))); clear ho hb hg hat)
        go_roundw
        case rel => exact ⟨k + 1, _, ins ++ [e], by go_num, by omega, by rw [List.length_append]; show ins.length + 1 ≤ _; omega, HGd2, HQ3, ⟨v1', v2', HM5.out⟩, HO5, ⟨by rw [HG.out]; exact HB5.out⟩⟩
        case measure => simp [intOf]; omega
      · have d0 : (cd == 0) = false := beq_eq_false_iff_ne.mpr h0
        have HQ3 : Aside0 (madeM (newM r) l = (ins ++ (madeM mm (l.drop (k + 1))).1, (madeM mm (l.drop (k + 1))).2)) := ⟨by
          rw [HQ.out, HD.out]
          conv => lhs; unfold madeM
          rw [if_neg (by rw [HCd.out]; exact h0), addM_err (by rw [HCd.out]; exact h0)]⟩
        have HAe : Aside0 ((addM mm e).2 = mm) := ⟨addM_err (by rw [HCd.out]; exact h0)⟩
        clear h0
        go_wp2_with fail
        refine HAd.out.mono ?_
        rintro en W3 ⟨rfl, hS⟩
        have HI3 := Aside0.mk (row_other HI.out HM.out hS)
        have HB3 : Aside0 (Below w.heap.size w W3) := ⟨HB.out.trans (by rw [HG.out]; exact hS.bel)⟩
        obtain ⟨v1', v2', hM3, -, -, -⟩ := hS
        have HM3 := Aside0.mk hM3
        clear hM3 x0 x1 x2 x3
        go_wp2_with fail
        refine (num_calls cd W3).mono ?_
        rintro en W4 ⟨rfl, rfl⟩
        go_wp2_with fail
        go_roundw
        case rel => exact ⟨k + 1, mm, ins, by go_num, by omega, by omega, HGd, HQ3, ⟨v1', v2', by rw [← HAe.out]; exact HM3.out⟩, HI3, HB3⟩
        case measure => simp [intOf]; omega
    · obtain rfl : k = n := by omega
      have HF : Aside0 (madeM (newM r) l = (ins, mm)) := ⟨by
        rw [HQ.out, List.drop_of_length_le (by omega)]
        show (ins ++ [], mm) = _
        rw [List.append_nil]⟩
      have hgd := HGd.out.data
      have hgp := HGd.out.places
      have HSm : Aside0 (∀ p ∈ mm.places, p < 4294967296) := ⟨fun p hp => by have z := HGd.out.small p hp; omega⟩
      obtain ⟨v1, v2, hMm⟩ := HMm.out
      have HBy := Aside0.mk (bytes_calls hMm (by omega) (by omega) HGd.out.bytes HSm.out (HT.out.below HB.out))
      clear hMm hgd hgp hlt
      go_wp2_with fail
      refine HBy.out.mono ?_
      rintro en W3 ⟨A3, n3, c3, l3, rfl, hl3, hd3, -, hb3⟩
      subst hl3
      have HD3 := Aside0.mk hd3
      have HB3 := Aside0.mk hb3
      clear hd3 hb3
      go_wp2_with fail
      go_ret3
      refine ⟨A3, n3, c3, _, rfl, ?_, ?_, below_step HB.out HB3.out⟩
      · rw [HF.out]; exact HD3.out
      · rw [HF.out, HG.out]; exact Kd.R_below HI.out HB3.out
end Go.Proofs.YtaonjmkfbfhanaaDoor.Bk
/- The chapter's first example (this claim's own lemmas): what the maker and Seek make of it. -/
namespace Go.Proofs.YtaonjmkfbfhanaaDoor.Bk
open Go.RowKit Go.Proofs.YtaonjmkfbfhanaaDoorW.PrintWords Go.Proofs.YtaonjmkfbfhanaaDoor.Own Go.Proofs.YtaonjmkfbfhanaaDoor.G Go.Proofs.YtaonjmkfbfhanaaDoor.Wk Go.Proofs.YtaonjmkfbfhanaaDoor.QBo
set_option linter.unusedVariables false
def sA : ByteArray := ⟨#[97]⟩
def sAB : ByteArray := ⟨#[97, 98]⟩
def sB : ByteArray := ⟨#[98]⟩
def sX : ByteArray := ⟨#[120]⟩
def sAA : ByteArray := ⟨#[97, 97]⟩
def sC : ByteArray := ⟨#[99]⟩
def e1K : En := ⟨sA, 1, false, sX⟩
def e2K : En := ⟨sAB, 2, true, ⟨#[]⟩⟩
def e3K : En := ⟨sB, 3, false, ⟨#[]⟩⟩
def lK : List En := [e1K, e2K, e3K]
theorem lt1 : ltK sA sAA = true := by kernel_rfl
theorem seekK1 : seekF lK 2 sAA 4 0 = some 1 := by kernel_rfl
theorem seekK2 : seekF lK 2 sC 4 0 = none := by kernel_rfl
theorem addsK : (addsM (newM 2) lK).isSome = true := by kernel_rfl
theorem addsK2 : (addsM (newM 2) lK).map (fun m => (bytesM m).length) = some 31 := by kernel_rfl
end Go.Proofs.YtaonjmkfbfhanaaDoor.Bk
/- A block's iterator (this claim's own lemmas). -/
namespace Go.Proofs.YtaonjmkfbfhanaaDoor.Bk
open Go.RowKit Go.Shelf Go.Proofs.YtaonjmkfbfhanaaDoorW.PrintWords Go.Proofs.YtaonjmkfbfhanaaDoor.Own Go.Proofs.YtaonjmkfbfhanaaDoor.G Go.Proofs.YtaonjmkfbfhanaaDoor.Wk Go.Proofs.YtaonjmkfbfhanaaDoor.QBo
set_option linter.unusedVariables false
attribute [local go_sem] Oper.semAt_some
def eV (e : En) : Value := .agg #[.string e.f0, .int .u64 e.f1, .bool e.f2, .string e.f3]
set_option maxHeartbeats 1000000 in
theorem all_in (F : Fence) (n : Nat) (h47 : F.fn 47) (hro : F.round = none) (p : Option Addr) (w : World) :
    CallsIn F n Tryd.prog 47 #[.pointer p] w fun e w' => e = .returned (.func (.func 80) #[] #[.pointer (some ⟨w.heap.size, 0, none⟩)]) ∧ w' = w.alloc (.cells #[.pointer p] 39) := by
  refine callsIn_of_wp Tryd.func47 rfl h47 ?_ hro
  simp only [Tryd.ntmps47, List.size_toArray, List.length_cons, List.length_nil, Nat.reduceAdd, Nat.reduceSub, Array.replicate_succ, Array.replicate_zero, List.push_toArray, List.append_toArray, List.nil_append, List.cons_append]
  gi_wp2
  go_ret
  exact ⟨rfl, rfl⟩
set_option maxRecDepth 100000 in
set_option maxHeartbeats 2000000 in
theorem all1_in (F : Fence) (n : Nat) (h80 : F.fn 80) (hro : F.round = none) (hn : 1 ≤ n) (l Bs gk n1 c1 : Nat) (A : Option Addr) (es : List En) (w0 : World) (J Jx : List En → World → Prop)
    (hn1 : es.length = n1) (hgk : w0.cell? ⟨gk, 0, none⟩ = some (.slice A n1 c1)) (hC : Kd.C kE w0 A n1 es)
    (hJ : ∀ s X o, J s X → J s (X.alloc o))
    (hY : ∀ pre x W, J pre W → pre.length < n1 → YieldAt F (n - 1) Tryd.prog l #[eV x] W fun e W' =>
      (e = .returned (.bool true) ∧ J (pre ++ [x]) W' ∧ Below w0.heap.size W W') ∨ (e = .returned (.bool false) ∧ Jx (pre ++ [x]) W'))
    (W : World) (hW : Below w0.heap.size w0 W) (hBs : W.cell? ⟨Bs, 0, none⟩ = some (.pointer (some ⟨gk, 0, none⟩))) (h0 : J [] W) :
    CallsIn F n Tryd.prog 80 #[.func (.yield l) #[] #[], .pointer (some ⟨Bs, 0, none⟩)] W fun e W' => (∃ v, e = .returned v) ∧
      ((∃ ys, ys = es ∧ J ys W') ∨ (∃ pre, pre <+: es ∧ Jx pre W')) := by
  have hk0 : W.cell? ⟨gk, 0, none⟩ = some (.slice A n1 c1) := pw_cell_below hW hgk
  have hn9 : n1 ≤ 9223372036854775807 := hC.2.1
  have HC := Aside0.mk hC
  clear hC
  refine callsIn_of_wp Tryd.func80 rfl h80 ?_ hro
  simp only [Tryd.ntmps80, List.size_toArray, List.length_cons, List.length_nil, Nat.reduceAdd, Nat.reduceSub, Array.replicate_succ, Array.replicate_zero, List.push_toArray, List.append_toArray, List.nil_append, List.cons_append]
  gi_wp2
  gi_loopw [10] (fun i wr => ∃ k : Nat, k ≤ n1 ∧ i = .int .i64 k ∧ Aside0 (J (es.take k) wr) ∧ Aside0 (Below w0.heap.size W wr)) (fun i _ => n1 - (intOf i).toNat)
  case atStart => exact ⟨0, Nat.zero_le _, rfl, ⟨h0⟩, ⟨Below.refl _ _⟩⟩
  case round =>
    obtain ⟨k, hk, rfl, HJ, HB⟩ := hrel
    by_cases hlt : k < n1
    · obtain ⟨ad, ea, x0, x1, x2, x3⟩ := at_T30 (Kd.C_below HC.out (hW.trans HB.out)) (k : Int) (by omega) (by omega)
      subst ea
      obtain ⟨e, he⟩ : ∃ e, rd_T30 es (k : Int) = e := ⟨_, rfl⟩
      rw [he, Int.toNat_natCast] at x0 x1 x2 x3
      have hek : es[k]'(by omega) = e := by rw [← he]; simp [rd_T30, List.getD_eq_getElem?_getD, hn1, hlt]
      have HT : Aside0 (es.take (k + 1) = es.take k ++ [e]) := ⟨by rw [List.take_succ_eq_append_getElem (by omega), hek]⟩
      obtain ⟨fn, tmps, assign, body, hy, hR⟩ := hY (es.take k) e _ (hJ _ _ (.cells #[.string e.f0, .int .u64 e.f1, .bool e.f2, .string e.f3] 30) HJ.out) (by rw [List.length_take]; omega)
      have HBA : Aside0 (Below w0.heap.size W (wr.alloc (.cells #[.string e.f0, .int .u64 e.f1, .bool e.f2, .string e.f3] 30))) := ⟨HB.out.alloc (Nat.le_trans hW.size HB.out.size) _⟩
      unfold eV at hy
      clear he hek
      gi_wp2
      refine hR.mono ?_
      rintro en W3 (⟨rfl, hJ3, hk3⟩ | ⟨rfl, hJx3⟩)
      · have HJ3 := Aside0.mk hJ3
        have HB3 := Aside0.mk (HBA.out.trans hk3)
        clear hJ3 hk3
        gi_wp2
        go_roundw
        case rel => exact ⟨k + 1, by omega, by simp, by rw [HT.out]; exact HJ3, HB3⟩
        case measure => simp [intOf]; omega
      · have HX3 := Aside0.mk hJx3
        clear hJx3
        gi_wp2
        refine bodyPost_ret (results_none rfl _ _ _) rfl ?_
        exact ⟨⟨_, rfl⟩, .inr ⟨_, by rw [← HT.out]; exact List.take_prefix _ _, HX3.out⟩⟩
    · obtain rfl : k = n1 := by omega
      gi_wp2
      go_end0
      exact ⟨⟨_, rfl⟩, .inl ⟨_, List.take_of_length_le (by omega), HJ.out⟩⟩
end Go.Proofs.YtaonjmkfbfhanaaDoor.Bk
/- What a block's iterator gives (this claim's own lemmas). -/
namespace Go.Proofs.YtaonjmkfbfhanaaDoor.Bk
open Go.RowKit Go.Shelf Go.Proofs.YtaonjmkfbfhanaaDoorW.PrintWords Go.Proofs.YtaonjmkfbfhanaaDoor.Own Go.Proofs.YtaonjmkfbfhanaaDoor.G Go.Proofs.YtaonjmkfbfhanaaDoor.Wk Go.Proofs.YtaonjmkfbfhanaaDoor.QBo
set_option linter.unusedVariables false
attribute [local go_sem] Oper.semAt_some
def cE (x : En) : List Value := [.string x.f0, .int .u64 x.f1, .bool x.f2, .string x.f3]
def givenL (n : Int) (es : List En) : List En := if n = 0 then [] else if 0 < n then es.take n.toNat else es
theorem all_stops (F : Fence) (n : Nat) (h80 : F.fn 80) (hro : F.round = none) (hn : 1 ≤ n) (Bs gk n1 c1 : Nat) (A : Option Addr) (es : List En) (w0 w : World)
    (hn1 : es.length = n1) (hgk : w0.cell? ⟨gk, 0, none⟩ = some (.slice A n1 c1)) (hC : Kd.C kE w0 A n1 es) (hB : Below w0.heap.size w0 w) (hBs : w.cell? ⟨Bs, 0, none⟩ = some (.pointer (some ⟨gk, 0, none⟩))) (hBl : Bs < w.heap.size) :
    SeqStopsK F n Tryd.prog 80 #[.pointer (some ⟨Bs, 0, none⟩)] (fun x : En => #[eV x]) (Below w0.heap.size) (fun ys => ys = es) (fun pre => pre <+: es) es.length w := fun l J Jx W hW hJ _ hY h0 =>
  all1_in F n h80 hro hn l Bs gk n1 c1 A es w0 J Jx hn1 hgk hC (fun s X o hs => hJ s X _ none hs (World.grownBy_alloc X o none) (fun r e => by cases e)) (by rw [← hn1]; exact hY) W (hB.trans (hW.mono hB.size)) ((hW.cell (p := ⟨Bs, 0, none⟩) hBl).trans hBs) h0
theorem block_own {β : Type} (B Bx : Nat) (cs : Array Value) (t : TypeId) : OwnFrom B (fun (_ : β) W => W.heap[Bx]? = some (.cells cs t (0, 0))) := fun s X Y row hs hg hrow =>
  (hg.block Bx (blk_lt hs) (fun e => by obtain ⟨_, o, ho, hc⟩ := hrow Bx e.symm; rw [hs] at ho; cases ho; cases hc)).trans hs
theorem four_new (w : World) (a b c d : Value) (t : TypeId) : ∀ j u, [a, b, c, d][j]? = some u → (w.alloc (.cells #[a, b, c, d] t)).cell? ((⟨w.heap.size, 0, none⟩ : Addr).add j) = some u := by
  intro j u hu
  rcases j with _ | _ | _ | _ | j
  · exact (show (w.alloc (.cells #[a, b, c, d] t)).cell? ⟨w.heap.size, 0, none⟩ = some u from (blk_cell (heap_alloc_new w _) 0).trans hu)
  · exact (show (w.alloc (.cells #[a, b, c, d] t)).cell? ⟨w.heap.size, 1, none⟩ = some u from (blk_cell (heap_alloc_new w _) 1).trans hu)
  · exact (show (w.alloc (.cells #[a, b, c, d] t)).cell? ⟨w.heap.size, 2, none⟩ = some u from (blk_cell (heap_alloc_new w _) 2).trans hu)
  · exact (show (w.alloc (.cells #[a, b, c, d] t)).cell? ⟨w.heap.size, 3, none⟩ = some u from (blk_cell (heap_alloc_new w _) 3).trans hu)
  · exact absurd hu (by simp)
theorem infoE : (Tryd.prog.info? 30).map (fun i => (i.zero, i.size, i.bytes)) = some (some (.agg #[(.string ⟨#[]⟩), (.int .u64 0), (.bool false), (.string ⟨#[]⟩)]), 4, 48) := by kernel_rfl
set_option maxRecDepth 100000 in
set_option maxHeartbeats 4000000 in
theorem given_in (F : Fence) (n : Nat) (h21 : F.fn 21) (h47 : F.fn 47) (h80 : F.fn 80) (hro : F.round = none) (hn : 3 ≤ n) (gk n1 c1 : Nat) (A : Option Addr) (es : List En) (q : Int) (hq0 : q ≠ 0) (w : World)
    (hn1 : es.length = n1) (hl : n1 ≤ 1073741824) (hgk : w.cell? ⟨gk, 0, none⟩ = some (.slice A n1 c1)) (hC : Kd.C kE w A n1 es) :
    CallsIn F n Tryd.prog 21 #[.pointer (some ⟨gk, 0, none⟩), .int .i64 q] w fun e W' => ∃ v, e = .returned v ∧ W'.ownsRow w.heap.size 30 4 v (givenL q es).length ((givenL q es).flatMap cE) ∧ Below w.heap.size w W' := by
  have h1 : 1 ≤ n := by omega
  have hnf : ∀ (c : Array Value) (W : World), (binOp .eql 105 (.func (.func 80) #[] c) .nilFunc).run Tryd.prog W = .ok (.bool false) W := fun c W => by rfl
  obtain ⟨i0, hi, hz0, hz1, hz2⟩ := info_parts infoE
  have dq : (q == 0) = false := by rw [beq_eq_false_iff_ne]; exact hq0
  refine callsIn_of_wp_marks Tryd.func21 rfl h21 ?_ hro
  simp only [Tryd.ntmps21, List.size_toArray, List.length_cons, List.length_nil, Nat.reduceAdd, Nat.reduceSub, Array.replicate_succ, Array.replicate_zero, List.push_toArray, List.append_toArray, List.nil_append, List.cons_append]
  gi_wp2_with (gi_at_call 47; refine (all_in F (n - 1) h47 hro _ _).mono ?_; rintro e w' ⟨rfl, rfl⟩)
  have bN := Boxed.new w 3 (.int .i64 q)
  have bO := Boxed.new (w.alloc (.cells #[.int .i64 q] 3)) 25 (.slice none 0 0)
  have bB := Boxed.new ((w.alloc (.cells #[.int .i64 q] 3)).alloc (.cells #[.slice none 0 0] 25)) 39 (.pointer (some ⟨gk, 0, none⟩))
  rw [World.size_alloc] at bO bB
  rw [World.size_alloc] at bB
  obtain ⟨W0, hW0⟩ : ∃ W0, (((w.alloc (.cells #[.int .i64 q] 3)).alloc (.cells #[.slice none 0 0] 25)).alloc (.cells #[.pointer (some ⟨gk, 0, none⟩)] 39)) = W0 := ⟨_, rfl⟩
  have bN0 : Boxed W0 w.heap.size 3 (.int .i64 q) := hW0 ▸ (bN.alloc _).alloc _
  have bO0 : Boxed W0 (w.heap.size + 1) 25 (.slice none 0 0) := hW0 ▸ bO.alloc _
  have bB0 : Boxed W0 (w.heap.size + 1 + 1) 39 (.pointer (some ⟨gk, 0, none⟩)) := hW0 ▸ bB
  have hB0 : Below w.heap.size w W0 := hW0 ▸ (((Below.refl _ w).alloc (Nat.le_refl _) _).alloc (by simp) _).alloc (by simp; omega) _
  have hs0 : W0.heap.size = w.heap.size + 1 + 1 + 1 := by rw [← hW0]; simp
  rw [hW0]
  clear bN bO bB
  refine wpIn_rangeFunc_ownH hro h1 (gf := 80) (lb := #[.pointer (some ⟨w.heap.size + 1 + 1, 0, none⟩)]) rfl h80 (enters_of Tryd.func80 (by kernel_rfl) rfl)
    (all_stops F (n - 1) h80 hro (by omega) (w.heap.size + 1 + 1) gk n1 c1 A es w W0 hn1 hgk hC hB0 bB0.cell (by omega)) belowK_t (belowK_b (by omega)) (Below.refl _ _) (fun _ => rfl)
    (fun pre W => ((∃ v, Boxed W (w.heap.size + 1) 25 v ∧ W.ownsRow w.heap.size 30 4 v pre.length (pre.flatMap cE) ∧ True) ∧ Boxed W w.heap.size 3 (.int .i64 q)) ∧ (Below w.heap.size w W ∧ (0 < q → (pre.length : Int) < q)))
    (fun c pre W => (∃ v, Boxed W (w.heap.size + 1) 25 v ∧ W.ownsRow w.heap.size 30 4 v pre.length (pre.flatMap cE) ∧ True) ∧ (Below w.heap.size w W ∧ (c = .exit 0 ∧ (pre.length : Int) = q)))
    (OwnFrom.and (OwnFrom.and (Own.from (holdsRow_own w.heap.size (w.heap.size + 1) 25 30 4 (fun pre : List En => pre.length) (fun pre => pre.flatMap cE) (fun _ _ => True)) _) (Own.from (boxed_own _ _ _) _)) (OwnFrom.and (ownFrom_below (Nat.le_refl _) (by omega)) (ownFrom_pure _ _)))
    (fun c => OwnFrom.and (Own.from (holdsRow_own w.heap.size (w.heap.size + 1) 25 30 4 (fun pre : List En => pre.length) (fun pre => pre.flatMap cE) (fun _ _ => True)) _) (OwnFrom.and (ownFrom_below (Nat.le_refl _) (by omega)) (ownFrom_pure _ _)))
    ⟨⟨⟨_, bO0, World.ownsRow_nil _ _ _ _, trivial⟩, bN0⟩, hB0, fun h => h⟩
    (fun x a' W => ∃ Bx, w.heap.size + 1 < Bx ∧ W.heap[Bx]? = some (.cells #[.string x.f0, .int .u64 x.f1, .bool x.f2, .string x.f3] 30 (0, 0)) ∧ a' = { tmps := #[.pointer (some ⟨gk, 0, none⟩), .int .i64 q, undef, .pointer (some ⟨w.heap.size, 0, none⟩), .slice none 0 0, .pointer (some ⟨w.heap.size + 1, 0, none⟩), .func (.func 80) #[] #[.pointer (some ⟨w.heap.size + 1 + 1, 0, none⟩)], .pointer (some ⟨Bx, 0, none⟩), .int .i64 q, .bool false, .pointer (some ⟨gk, 0, none⟩), .func (.func 80) #[] #[.pointer (some ⟨w.heap.size + 1 + 1, 0, none⟩)], .func (.func 80) #[] #[.pointer (some ⟨w.heap.size + 1 + 1, 0, none⟩)], .bool false, undef, undef, .func (.func 80) #[] #[.pointer (some ⟨w.heap.size + 1 + 1, 0, none⟩)], .agg #[.string x.f0, .int .u64 x.f1, .bool x.f2, .string x.f3], undef, undef, undef, undef, undef, undef, undef, undef, undef], defers := [] })
    (fun x a' _ X Y row hs hg hr => by obtain ⟨Bx, h1, h2, h3⟩ := hs; exact ⟨Bx, h1, block_own (β := Unit) _ Bx _ _ () X Y row h2 hg hr, h3⟩)
    ?assign ?body ?done ?stop
  case assign =>
    rintro l pre x W K ⟨⟨⟨v, hv, hrow, -⟩, bN1⟩, hB1, hlq⟩ hK
    unfold eV
    gi_wp2
    exact hK _ _ ((KeepsOthers.alloc _ _).from _) ((Below.refl _ W).alloc hB1.size _) ⟨⟨⟨_, hv.alloc _, hrow.alloc _, trivial⟩, bN1.alloc _⟩, hB1.alloc hB1.size _, hlq⟩ ⟨W.heap.size, hv.lt, heap_alloc_new W _, rfl⟩
  case body =>
    rintro l pre x a' W hl ⟨r, hr⟩ ⟨⟨⟨v, hv, hrow, -⟩, bN1⟩, hB1, hlq⟩ ⟨Bx, hBx, bX, rfl⟩ hlt
    have hc := hv.cell
    have cN := bN1.cell
    have x0 : W.cell? ⟨Bx, 0, none⟩ = some (.string x.f0) := by rw [blk_cell bX]; rfl
    have x1 : W.cell? ⟨Bx, 1, none⟩ = some (.int .u64 x.f1) := by rw [blk_cell bX]; rfl
    have x2 : W.cell? ⟨Bx, 2, none⟩ = some (.bool x.f2) := by rw [blk_cell bX]; rfl
    have x3 : W.cell? ⟨Bx, 3, none⟩ = some (.string x.f3) := by rw [blk_cell bX]; rfl
    have HC4 : ∀ j u, (cE x)[j]? = some u → (W.alloc (.cells #[.string x.f0, .int .u64 x.f1, .bool x.f2, .string x.f3] 30)).cell? ((⟨W.heap.size, 0, none⟩ : Addr).add j) = some u := four_new W _ _ _ _ _
    have HO4 : ∀ u ∈ cE x, u.oneCell' = true := by unfold cE; simp [Value.oneCell']
    have hFM : (pre ++ [x]).flatMap cE = pre.flatMap cE ++ cE x := by rw [List.flatMap_append, List.flatMap_cons, List.flatMap_nil, List.append_nil]
    have hPL : (pre ++ [x]).length = pre.length + 1 := by rw [List.length_append]; rfl
    obtain ⟨k, hk⟩ : ∃ k, pre.length = k := ⟨_, rfl⟩
    rw [hk] at hrow hlt hlq
    have hkz : Aside0 ((pre ++ [x]).length = k + 1) := ⟨by rw [hPL, hk]⟩
    have HL9 : Aside0 (0 < q → (k : Int) < q) := ⟨hlq⟩
    have HPK := Aside0.mk hk
    have HFM := Aside0.mk hFM
    clear hlq hk hFM hPL
    by_cases hq : (k : Int) + 1 = q
    · have z1 : ((k : Int) + 1 == q) = true := beq_iff_eq.mpr hq
      have HQ := Aside0.mk hq
      clear hq
      gi_wp2_with (gi_at_builtin; go_must (refine wpListIn_append_own _ rfl _ _ 25 rfl w.heap.size 30 i0 _ 4 48 Tryd.underlying25 hi hz0 hz1 hz2 rfl (by decide) _ _ _ rfl (hrow.alloc _) ⟨W.heap.size, 0, none⟩ 1 1 (cE x) rfl rfl HC4 HO4 (show k + 1 ≤ 9223372036854775807 by omega) (by omega) (by have := hB1.size; simp; omega) ?_); intro v' w1 hown' hgrow _; obtain ⟨g', cap', rfl⟩ := ownsRow_succ hown'; (have bN2 := ((bN1.alloc (.cells #[.string x.f0, .int .u64 x.f1, .bool x.f2, .string x.f3] 30)).kept hgrow (bN1.not_row (by decide) hrow)).other (B' := w.heap.size + 1) (by omega) (.slice (some ⟨g', 0, none⟩) (k + 1) cap')); obtain ⟨hv1, hv2, hr2, hk2, hb2⟩ := hv.appended (by decide) hrow hB1.size (by omega) hown' hgrow; have hc1 := hv1.cell; have hf1 := hv1.frozen; have hc2 := hv2.cell; have hcN2 := bN2.cell)
      exact ⟨hk2.from _, ⟨_, hv2, by rw [hkz.out, HFM.out]; exact hr2, trivial⟩, hB1.trans hb2, rfl, by rw [hkz.out]; have := HQ.out; omega⟩
    · have z1 : ((k : Int) + 1 == q) = false := beq_eq_false_iff_ne.mpr hq
      have HQ := Aside0.mk hq
      clear hq
      gi_wp2_with (gi_at_builtin; go_must (refine wpListIn_append_own _ rfl _ _ 25 rfl w.heap.size 30 i0 _ 4 48 Tryd.underlying25 hi hz0 hz1 hz2 rfl (by decide) _ _ _ rfl (hrow.alloc _) ⟨W.heap.size, 0, none⟩ 1 1 (cE x) rfl rfl HC4 HO4 (show k + 1 ≤ 9223372036854775807 by omega) (by omega) (by have := hB1.size; simp; omega) ?_); intro v' w1 hown' hgrow _; obtain ⟨g', cap', rfl⟩ := ownsRow_succ hown'; (have bN2 := ((bN1.alloc (.cells #[.string x.f0, .int .u64 x.f1, .bool x.f2, .string x.f3] 30)).kept hgrow (bN1.not_row (by decide) hrow)).other (B' := w.heap.size + 1) (by omega) (.slice (some ⟨g', 0, none⟩) (k + 1) cap')); obtain ⟨hv1, hv2, hr2, hk2, hb2⟩ := hv.appended (by decide) hrow hB1.size (by omega) hown' hgrow; have hc1 := hv1.cell; have hf1 := hv1.frozen; have hc2 := hv2.cell; have hcN2 := bN2.cell)
      exact ⟨hk2.from _, hb2, ⟨⟨_, hv2, by rw [hkz.out, HFM.out]; exact hr2, trivial⟩, bN2⟩, hB1.trans hb2, fun h => by rw [hkz.out]; have z1 := HQ.out; have z2 := HL9.out h; omega⟩
  case done =>
    rintro D ys W hD rfl ⟨⟨⟨v, hv, hrow, -⟩, bN1⟩, hB1, hlq⟩ hK
    have hc := hv.cell
    gi_wp2
    refine ⟨by simp, .inl ⟨_, _, rfl, run_takeDeferred hK, ?_⟩⟩
    have hg : givenL q ys = ys := by
      unfold givenL
      rw [if_neg hq0]
      by_cases h : 0 < q
      · rw [if_pos h, List.take_of_length_le (by have := hlq h; omega)]
      · rw [if_neg h]
    rw [hg]
    exact ⟨_, results_tmp rfl _ _ _, v, rfl, ownsRow_putObj hrow _ hK rfl, hB1.trans (belowK_b (w := w) (Nat.le_refl _) W D _ _ (by omega) hK rfl rfl)⟩
  case stop =>
    rintro D c pre W hD hpre ⟨⟨v, hv, hrow, -⟩, hB1, rfl, hpq⟩ hK
    have hc := hv.cell
    gi_wp2
    refine ⟨by simp, .inl ⟨_, _, rfl, run_takeDeferred hK, ?_⟩⟩
    have hg : givenL q es = pre := by
      unfold givenL
      rw [if_neg hq0, if_pos (by omega)]
      obtain ⟨t, rfl⟩ := hpre
      rw [← hpq, Int.toNat_natCast, List.take_left']
      rfl
    rw [hg]
    exact ⟨_, results_tmp rfl _ _ _, v, rfl, ownsRow_putObj hrow _ hK rfl, hB1.trans (belowK_b (w := w) (Nat.le_refl _) W D _ _ (by omega) hK rfl rfl)⟩
end Go.Proofs.YtaonjmkfbfhanaaDoor.Bk
/- What screelaw9.given hands back (this claim's own lemmas). -/
namespace Go.Proofs.YtaonjmkfbfhanaaDoor.Bk
open Go.RowKit Go.Shelf Go.Proofs.YtaonjmkfbfhanaaDoorW.PrintWords Go.Proofs.YtaonjmkfbfhanaaDoor.Own Go.Proofs.YtaonjmkfbfhanaaDoor.G Go.Proofs.YtaonjmkfbfhanaaDoor.Wk Go.Proofs.YtaonjmkfbfhanaaDoor.QBo
set_option linter.unusedVariables false
theorem reps_cE (w : World) (base : Nat) (ok : Nat → Prop) (es : List En) : Reps (kE.M w base ok) 4 es (es.flatMap cE) := by
  induction es with
  | nil => exact Reps.none _ _
  | cons x es ih =>
    refine ⟨?_, fun j p hp => ?_⟩
    · rw [List.flatMap_cons, List.length_append, ih.1, List.length_cons, Nat.add_mul]
      show 4 + _ = _
      omega
    · cases j with
      | zero =>
        rw [List.getElem?_cons_zero, Option.some.injEq] at hp
        subst hp
        exact k30_mkM w base ok x
      | succ j =>
        rw [List.getElem?_cons_succ] at hp
        have h := ih.2 j p hp
        rw [List.flatMap_cons, show (j + 1) * 4 = 4 + j * 4 by omega, ← List.drop_drop]
        exact h
theorem row_R {w : World} {base : Nat} {v : Value} {es : List En} (h : w.ownsRow base 30 4 v es.length (es.flatMap cE)) : kE.R 30 w base (fun _ => True) v es :=
  ⟨fun _ _ => trivial, _, h, reps_cE _ _ _ _⟩
def GivenPost (w : World) (es : List En) (e : Ending) (W' : World) : Prop := ∃ v, e = .returned v ∧ kE.R 30 W' w.heap.size (fun _ => True) v es ∧ Below w.heap.size w W'
theorem given_calls (gk n1 c1 : Nat) (A : Option Addr) (es : List En) (q : Int) (w : World) (hl : n1 ≤ 1073741824) (hgk : w.cell? ⟨gk, 0, none⟩ = some (.slice A n1 c1)) (hC : Kd.C kE w A n1 es) :
    Calls Tryd.prog 21 #[.pointer (some ⟨gk, 0, none⟩), .int .i64 q] w (GivenPost w (givenL q es)) := by
  by_cases hq : q = 0
  · subst hq
    rw [show givenL 0 es = [] from if_pos rfl]
    go_enter Tryd.func21, Tryd.ntmps21
    go_wp2_with fail
    go_ret
    exact ⟨_, rfl, Kd.R_nil _ _ _ _ _, ((Below.refl _ w).alloc (Nat.le_refl _) _).alloc (by simp) _⟩
  · refine ((callsIn_wide (n := 3)).1 (given_in _ 3 trivial trivial trivial rfl (Nat.le_refl _) gk n1 c1 A es q hq w hC.1 hl hgk hC)).mono ?_
    rintro e W' ⟨v, rfl, hr, hb⟩
    exact ⟨v, rfl, row_R hr, hb⟩
end Go.Proofs.YtaonjmkfbfhanaaDoor.Bk
