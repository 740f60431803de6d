/- BlockMakes returns true, and leaves its arguments as they were, for every input; the table of four bits' sums reads as the program's text lays it (tied by the card). -/
import Derived.Test.YtaonjmkfbfhanaaGreatDoorZBm6
import Derived.Test.YtaonjmkfbfhanaaGreatDoorZBm7
import Derived.Test.YtaonjmkfbfhanaaGreatDoorCards
import Derived.Test.YtaonjmkfbfhanaaGreatDoorTie
import Derived.Stop.LaidErr
import Derived.WalkKit
import Derived.ProofKit
import Derived.OpenShut
import Derived.ShutString
import Derived.ChangeOld
import Derived.Below
import Derived.SizedLaws
import Derived.Deep.DeepHandedRow
import Derived.Lib.LaidTab
import Derived.JoinedCond
import Derived.Deep.CondSized
import Derived.Test.YtaonjmkfbfhanaaGreatDoorZBm1
namespace Go.Proofs.YtaonjmkfbfhanaaGreatDoor.Bk
open Go.RowKit Go.Proofs.YtaonjmkfbfhanaaGreatDoorW.PrintWords Go.Proofs.YtaonjmkfbfhanaaGreatDoor.Own Go.Proofs.YtaonjmkfbfhanaaGreatDoor.G Go.Proofs.YtaonjmkfbfhanaaGreatDoor.Wk Go.Proofs.YtaonjmkfbfhanaaGreatDoor.QBo Go.Proofs.YtaonjmkfbfhanaaGreatDoor.Rf
open Go.Proofs.YtaonjmkfbfhanaaGreatDoor.SmE (smallB smallB_true small_calls FitE partsE)
open Go.Proofs.YtaonjmkfbfhanaaGreatDoor.Kb (Book newB zeroLit kB Tg BytesPost LB)
set_option linter.unusedVariables false
theorem enW_of {L : List En} (h : Opn.GEs L) : (∀ e ∈ L, EnW e) ∧ FitE L := by
  refine ⟨fun e he => ?_, fun e he => ⟨(h.2 e he).1, (h.2 e he).2.2⟩⟩
  have z := (h.2 e he).2.1
  have z2 : 0 ≤ e.f1 ∧ e.f1 ≤ 18446744073709551615 := by simpa [Lit.wf, IntKind.min, IntKind.max, IntKind.signed, IntKind.bits] using z
  exact z2
/-- The maker, the entries' row and the book beside one another. -/
structure Mb (W : World) (τ : Nat → Nat) (gm gb N b : Nat) (m : Mk) (v1 v2 v : Value) (ins : List En) : Prop where
  book : Book W τ gb gb N
  mka : MkAt W gm gm m v1 v2
  mt : ∀ k, mkF gm v1 v2 k → τ k = 0
  row : kE.R 53 W b (fun k => τ k = 0) v ins
section
variable {W W' : World} {τ τ' : Nat → Nat} {gm gb N b : Nat} {m m' : Mk} {v1 v2 v v1' v2' v' : Value} {ins : List En}
theorem Mb.below (h : Mb W τ gm gb N b m v1 v2 v ins) (hb : Below W.heap.size W W') : Mb W' τ gm gb N b m v1 v2 v ins := ⟨h.book.below hb, h.mka.below hb, h.mt, Kd.R_below h.row hb⟩
theorem row_ok (h : kE.R 53 W b (fun k => τ k = 0) v ins) (hM : MkAt W gm gm m v1 v2) (hk : ∀ k, k < W.heap.size → ¬ mkF gm v1 v2 k → W'.heap[k]? = W.heap[k]?) : kE.R 53 W' b (fun k => τ k = 0) v ins := by
  refine Kd.R_mono (Kd.R_step (Kd.R_bound h) (fun k hk' hlt => ?_)) (fun _ hk => hk.1)
  obtain ⟨_, _, _, q, hq, cs, hc⟩ := hk'
  have hq' := kE_typed hq
  subst hq'
  exact hk k hlt (hM.other hc (by decide) (by decide) (by decide))
theorem Mb.lt (h : Mb W τ gm gb N b m v1 v2 v ins) {k : Nat} (hk : mkF gm v1 v2 k) : k < W.heap.size := by
  rcases hk with rfl | hk | hk
  · exact blk_lt h.mka.1
  · exact (own_u8 h.mka.2.2.1 hk).2.1
  · exact (own_i64 h.mka.2.2.2 hk).2.1
theorem _root_.Go.Proofs.YtaonjmkfbfhanaaGreatDoor.Kb.Book.size {W : World} {τ : Nat → Nat} {base g N : Nat} (h : Book W τ base g N) : base ≤ W.heap.size := by
  obtain ⟨M, f, S, I, ws, os, hB, hn⟩ := h
  exact hB.inv.size
/-- A step of the maker's. -/
theorem Mb.maker (h : Mb W τ gm gb N b m v1 v2 v ins) (hS : MkS W W' gm gm (mkF gm v1 v2) m') : ∃ v1' v2', Mb W' τ gm gb N b m' v1' v2' v ins := by
  obtain ⟨a1, a2, a3, a4, a5, a6⟩ := hS
  refine ⟨a1, a2, h.book.frm a4.size (fun k hk ht => a5 k hk (fun e => ht (h.mt k e))), a3, fun k hk => ?_, row_ok h.row h.mka a5⟩
  rcases a6 k hk with e | e
  · exact h.mt k e
  · exact h.book.new k e
/-- One entry more in the row. -/
theorem Mb.push (h : Mb W τ gm gb N b m v1 v2 v ins) {ins' : List En} (ho : kE.R 53 W' b (fun k => τ k = 0) v' ins') (hg : W.grownBy W' v.ownBlock) : Mb W' τ gm gb N b m v1 v2 v' ins' := by
  refine ⟨h.book.frm hg.size (fun k hk ht => hg.block k hk (fun e => ht (h.row.1 k e.symm))), h.mka.grown hg (fun k hk => ?_), h.mt, ho⟩
  obtain ⟨_, _, _, q, hq, cs, hc⟩ := (Kd.R_bound h.row).1 k hk
  have hq' := kE_typed hq
  subst hq'
  exact ⟨cs, hc⟩
/-- A list is handed to the book. -/
theorem Mb.hand (h : Mb W τ gm gb N b m v1 v2 v ins) {u : Value} (hB : Book W' τ' gb gb (N + 2)) (hk : ∀ k, k < W.heap.size → τ k = 0 → some k ≠ u.ownBlock → W'.heap[k]? = W.heap[k]? ∧ τ' k = 0) (hs : W.heap.size ≤ W'.heap.size) (hu : ∀ k, mkF gm v1 v2 k → some k ≠ u.ownBlock) (hv : ∀ k, u.ownBlock = some k → ∃ cs, W.heap[k]? = some (.cells cs 5 (0, 0))) : Mb W' τ' gm gb (N + 2) b m v1 v2 v ins := by
  have hl : ∀ k, mkF gm v1 v2 k → k < W.heap.size := fun k hk => by
    rcases hk with rfl | hk | hk
    · exact blk_lt h.mka.1
    · exact (own_u8 h.mka.2.2.1 hk).2.1
    · exact (own_i64 h.mka.2.2.2 hk).2.1
  have hkk : ∀ k, mkF gm v1 v2 k → W'.heap[k]? = W.heap[k]? ∧ τ' k = 0 := fun k hk' => hk k (hl k hk') (h.mt k hk') (hu k hk')
  refine ⟨hB, ⟨(hkk gm (.inl rfl)).1.trans h.mka.1, h.mka.2.1, ?_, ?_⟩, fun k hk' => (hkk k hk').2, ?_⟩
  · exact Kd.R_mono (Kd.R_move (Kd.R_tight rfl h.mka.2.2.1) (fun k e => (hkk k (.inr (.inl e.symm))).1)) (fun _ _ => trivial)
  · exact Kd.R_mono (Kd.R_move (Kd.R_tight rfl h.mka.2.2.2) (fun k e => (hkk k (.inr (.inr e.symm))).1)) (fun _ _ => trivial)
  · have hb := Kd.R_bound h.row
    have hne : ∀ k, (τ k = 0 ∧ b ≤ k ∧ k < W.heap.size ∧ ∃ q, q ∈ 53 :: kE.E ∧ ∃ cells, W.heap[k]? = some (.cells cells q (0, 0))) → W'.heap[k]? = W.heap[k]? ∧ τ' k = 0 := fun k hk' => by
      obtain ⟨h0, _, hlt, q, hq, cs, hc⟩ := hk'
      have hq' := kE_typed hq
      subst hq'
      refine hk k hlt h0 (fun e => ?_)
      obtain ⟨cs', hc'⟩ := hv k e.symm
      rw [hc'] at hc
      injection hc with hc
      injection hc with _ e3
      exact absurd e3 (by decide)
    exact Kd.R_mono (Kd.R_step hb (fun k hk' _ => (hne k hk').1) |> fun z => Kd.R_mono z (fun k hk' => (hne k hk').2)) (fun _ h => h)
end
theorem szM_len (m : Mk) : (bytesM m).length = szM m := by rw [bytesM_len]; rfl
set_option maxHeartbeats 16000000 in
set_option maxRecDepth 100000 in
theorem bmakes_walk {w : World} {A1 : Option Addr} {n1 c1 : Nat} {L : List En} (r : Int) (h0 : r ≤ 9223372036854775807) (ev : Int) (hr0 : Rd kE w A1 n1 c1 L) (hl : L.length ≤ 140737488351232) (hf : FitE L) (hw : ∀ e ∈ L, EnW e) (hT : GT w) :
    Calls Tryz.prog 3 #[.int .i64 r, .slice A1 n1 c1, .int .i64 ev] w fun e w' => e = .returned (.bool true) ∧ Below w.heap.size w w' := by
  have hn : L.length = n1 := hr0.1
  have HR := Aside0.mk hr0
  have HW := Aside0.mk hw
  have HFt := Aside0.mk hf
  have HT := Aside0.mk hT
  have HS := Aside0.mk (small_calls hr0 hl hf)
  obtain ⟨s, hs⟩ : ∃ s, smallB L = s := ⟨_, rfl⟩
  rw [hs] at HS
  have HSm := Aside0.mk hs
  clear hr0 hf hw hT hs
  go_enter Tryz.func3, Tryz.ntmps3
  go_wp2_with fail
  refine HS.out.mono ?_
  rintro en W1 ⟨rfl, hb1⟩
  have HB1 := Aside0.mk hb1
  clear hb1
  cases s with
  | false =>
    go_wp2_with fail
    go_ret
    exact ⟨rfl, HB1.out⟩
  | true =>
    obtain ⟨h200, hpt⟩ := smallB_true HSm.out
    go_wp2_with (first | ((with_reducible refine gate_dst (N := 17) rfl ?_); refine Kd.event_run (v := .agg zeroLit) (w1 := W1) rfl (by simp [execOp, Kb.run_build_book]) ?_) | ((with_reducible refine gate_dst (N := 18) rfl ?_); refine box_event ?hg (N := 18) ?hd (cs := zeroLit) (t := 46) ?hr ?_; (case hd => rfl); (case hg => rfl); (case hr => (have hcb := Kb.cells_book; first | (go_simp; done) | (go_simp; rfl))); intro gb hgb W2 hbox hb2; (have HBk0 := Aside0.mk (Kb.Book.begin (base := gb) hbox (Nat.le_refl _))); (have HGs : Aside0 (w.heap.size ≤ gb ∧ gb < W2.heap.size) := ⟨⟨by rw [hgb]; exact HB1.out.size, blk_lt hbox⟩⟩); (have HB2 := Aside0.mk (below_step HB1.out hb2)); clear hgb hbox hb2 HB1))
    refine (new_calls r W2).mono ?_
    rintro en W3 ⟨v1, v2, rfl, hM3, hb3⟩
    obtain ⟨gm, hgm⟩ : ∃ gm, W2.heap.size = gm := ⟨_, rfl⟩
    rw [hgm] at hM3
    have HMb : Aside0 (Mb W3 (newB gb) gm gb 0 w.heap.size (newM r) v1 v2 (.slice none 0 0) []) := ⟨⟨HBk0.out.below hb3, hM3, fun k hk => by
      have hk2 : gm ≤ k := by
        rcases hk with rfl | hk | hk
        · exact Nat.le_refl _
        · exact (own_u8 hM3.2.2.1 hk).1
        · exact (own_i64 hM3.2.2.2 hk).1
      have := HGs.out.2
      exact if_neg (by omega), Kd.R_nil _ _ _ _ _⟩⟩
    have HB3 := Aside0.mk (below_step HB2.out hb3)
    have HSz := Aside0.mk (size_calls hM3 (by simp [newM]) (by simp [newM]))
    have h8 : (szM (newM r) : Int) = 8 := rfl
    rw [h8] at HSz
    rw [hgm]
    have HG2 : Aside0 (w.heap.size ≤ gm ∧ w.heap.size ≤ gb) := ⟨by have z := HGs.out; omega⟩
    clear hM3 hb3 h8 hgm HBk0 HB2
    go_wp2_with fail
    refine HSz.out.mono ?_
    rintro en W4 ⟨rfl, nd, hnd⟩
    have HMb4 : Aside0 (Mb W4 (newB gb) gm gb 0 w.heap.size (newM r) v1 v2 (.slice none 0 0) []) := ⟨HMb.out.below (by rw [hnd]; exact pw_below_drewN (Below.refl _ _) nd)⟩
    have HB4 : Aside0 (Below w.heap.size w W4) := ⟨by rw [hnd]; exact pw_below_drewN HB3.out nd⟩
    clear hnd HMb HB3 HSz
    go_wp2_with fail
    go_loopw [9, 10] (fun s9 s10 wr => ∃ (k : Nat) (ins : List En) (τ : Nat → Nat) (N : Nat) (v1 v2 : Value), s10 = .int .i64 (k : Int) ∧ k ≤ n1 ∧ ins.length ≤ k ∧ N ≤ 2 * k ∧ Aside0 (Taken ins) ∧ Aside0 (Mb wr τ gm gb N w.heap.size (pushAll (newM r) ins) v1 v2 s9 ins) ∧ Aside0 (Below w.heap.size w wr)) (fun _ s10 _ => n1 - (intOf s10).toNat)
    case atStart => exact ⟨0, [], _, 0, _, _, rfl, Nat.zero_le _, Nat.zero_le _, Nat.zero_le _, ⟨taken_nil⟩, HMb4, HB4⟩
    case round =>
      clear HMb4 HB4
      obtain ⟨k, ins, τ, N, v1, v2, rfl, hk, hik, hNk, HTk, HMb, HB⟩ := hrel
      obtain ⟨Av, nv, qv, ev0, HNv⟩ := Kb.R_sliceN HMb.out.row
      subst ev0
      by_cases hlt : k < n1
      · obtain ⟨ad, ea, x0, x1, x2, x3⟩ := at_T53 (Kd.C_below HR.out.2.2 HB.out) (k : Int) (by omega) (by omega)
        subst ea
        obtain ⟨e, he⟩ : ∃ e, rd_T53 L (k : Int) = e := ⟨_, rfl⟩
        rw [he, Int.toNat_natCast] at x0 x1 x2 x3
        have hek : L[k]'(by omega) = e := by rw [← he]; simp [rd_T53, List.getD_eq_getElem?_getD, hn, hlt]
        have HEe : Aside0 (EnW e) := ⟨by rw [← hek]; exact HW.out _ (List.getElem_mem _)⟩
        have HEf : Aside0 (e.f0.size ≤ 140737488351232) := ⟨by rw [← hek]; exact (HFt.out _ (List.getElem_mem _)).1⟩
        have HEk : Aside0 (rd_T53 L (k : Int) = e) := ⟨he⟩
        clear he hek
        have HAd : Aside0 (Calls Tryz.prog 8 #[.slice Av nv qv, .agg #[.string e.f0, .int .u64 e.f1, .bool e.f2, .string e.f3]] wr fun e' w' => e' = .returned (.int .i64 (addM (pushAll (newM 1) ins) e).1) ∧ Below wr.heap.size wr w') := ⟨refAdds_calls e (Rd.of_own HMb.out.row) (by omega) HTk.out (by have := HEf.out; omega)⟩
        obtain ⟨cd, hcd⟩ : ∃ cd, (addM (pushAll (newM 1) ins) e).1 = cd := ⟨_, rfl⟩
        rw [hcd] at HAd
        have HCd : Aside0 ((addM (pushAll (newM r) ins) e).1 = cd) := ⟨(addM_fst r ins e).trans hcd⟩
        have HCd1 := Aside0.mk hcd
        clear hcd
        go_wp2_with fail
        refine HAd.out.mono ?_
        rintro en W3 ⟨rfl, hb3⟩
        have HMb3 := Aside0.mk (HMb.out.below hb3)
        have HB3 := Aside0.mk (below_step HB.out hb3)
        clear hb3 x0 x1 x2 x3 HAd HMb HB
        obtain ⟨ad', ea', x0, x1, x2, x3⟩ := at_T53 (Kd.C_below HR.out.2.2 HB3.out) (k : Int) (by omega) (by omega)
        injection ea' with ea'
        subst ea'
        rw [HEk.out, Int.toNat_natCast] at x0 x1 x2 x3
        have HGd := Aside0.mk (HTk.out.good r)
        have hgd := HGd.out.data
        have hgp := HGd.out.places
        have hgn := HGd.out.n
        have hrs : (pushAll (newM r) ins).rs ≤ 9223372036854775807 ∧ 1 ≤ (pushAll (newM r) ins).rs := by rw [HGd.out.rs]; unfold rsOf; split <;> omega
        have HAdd := Aside0.mk (add_calls HMb3.out.mka HEe.out (by omega) (by omega) (by omega) hrs.2 hrs.1 HGd.out.last)
        rw [HCd.out] at HAdd
        clear hgd hgp hgn hrs
        go_wp2_with fail
        refine HAdd.out.mono ?_
        rintro en W4 ⟨rfl, hS⟩
        obtain ⟨v1', v2', hMb4⟩ := HMb3.out.maker hS
        have HMb4 := Aside0.mk hMb4
        have HB4 : Aside0 (Below w.heap.size w W4) := ⟨HB3.out.trans (hS.bel.mono HG2.out.1)⟩
        clear hS hMb4 x0 x1 x2 x3 HAdd HMb3
        go_wp2_with fail
        refine (num_calls cd W4).mono ?_
        rintro en W5 ⟨rfl, hw5⟩
        rw [hw5]
        clear hw5 W5
        go_upto_if 50 with fail
        go_cut [9] (fun s9 wx => ∃ (ins' : List En) (A' : Option Addr) (n' q' : Nat) (m1 m2 : Value), s9 = .slice A' n' q' ∧ Aside0 (ins'.length ≤ k + 1) ∧ Aside0 (Taken ins') ∧ Aside0 (Mb wx τ gm gb N w.heap.size (pushAll (newM r) ins') m1 m2 (.slice A' n' q') ins') ∧ Aside0 (Below w.heap.size w wx))
        case first =>
          by_cases hc0 : cd = 0
          · subst hc0
            have hm1 := addM_zero HCd.out
            rw [hm1.1] at HMb4
            have HT2 : Aside0 (Taken (ins ++ [e])) := ⟨HTk.out.snoc HCd1.out HEe.out⟩
            have PL : Aside0 ((ins.length + 1) * 48 ≤ 140737488355328) := ⟨by omega⟩
            obtain ⟨ad', ea', x0, x1, x2, x3⟩ := at_T53 (Kd.C_below HR.out.2.2 HB4.out) (k : Int) (by omega) (by omega)
            injection ea' with ea'
            subst ea'
            rw [HEk.out, Int.toNat_natCast] at x0 x1 x2 x3
            clear hm1
            go_wp2_with ((with_reducible refine gate_builtin (b := .append) (xs := #[.tmp 51, .tmp 56]) rfl ?_); at_builtin; go_must (refine Kd.R_append kE (w0 := w) w.heap.size rfl (.tmp 51) (.tmp 56) 22 53 (.agg #[(.string ⟨#[]⟩), (.int .u64 0), (.bool false), (.string ⟨#[]⟩)]) 48 rfl Tryz.underlying22 info53 rfl (by decide) (by omega) (.slice Av nv qv) ins e [.string e.f0, .int .u64 e.f1, .bool e.f2, .string e.f3] (fun k => τ k = 0) (fun _ => False) rfl rfl (k53_mkM _ _ _ e) (fun _ hk => hk.elim) (fun k hk => HMb4.out.book.new k hk) HMb4.out.row HB4.out HB4.out.size PL.out ?_); intro v5 W5 ho hb hg hat; (obtain ⟨A5, n5, q5, ev5, HN5⟩ := Kb.R_sliceN ho); subst ev5; (have HMb5 := Aside0.mk (HMb4.out.push ho hg)); (have HB5 := Aside0.mk hb); clear ho hb hg hat)
            go_meet
            case rel => exact ⟨ins ++ [e], A5, n5, q5, v1', v2', rfl, ⟨by rw [List.length_append]; show ins.length + 1 ≤ _; omega⟩, HT2, ⟨by rw [pushAll_snoc]; exact HMb5.out⟩, HB5⟩
          · have d0 : (cd == 0) = false := beq_eq_false_iff_ne.mpr hc0
            have HM' : Aside0 (Mb W4 τ gm gb N w.heap.size (pushAll (newM r) ins) v1' v2' (.slice Av nv qv) ins) := ⟨by
              have z := HMb4.out
              rw [addM_err (by rw [HCd.out]; exact hc0)] at z
              exact z⟩
            clear hc0
            go_wp2_with fail
            go_meet
            case rel => exact ⟨ins, Av, nv, qv, v1', v2', rfl, ⟨by omega⟩, HTk, HM', HB4⟩
        case rest =>
          clear HMb4 HB4 HTk HB3 HGd HCd HCd1 HEe HEf HEk HNv
          obtain ⟨ins', A', n', q', m1, m2, rfl, HIl, HTk, HMb, HB⟩ := hcut
          obtain ⟨wk, rfl⟩ : ∃ wk, wk = wc := ⟨_, rfl⟩
          go_upto_region 16 with fail
          go_cut [72] (fun s72 wx => (∃ bt : Bool, s72 = .bool bt) ∧ wx = wk)
          case first =>
            go_wp2_with fail
            all_goals (go_meet; case rel => exact ⟨⟨_, rfl⟩, rfl⟩)
          case rest =>
            obtain ⟨⟨bt, rfl⟩, hwc⟩ := hcut
            subst hwc
            cases bt with
            | false =>
              go_wp2_with fail
              go_roundw
              case rel => exact ⟨k + 1, ins', τ, N, m1, m2, by go_num, by omega, HIl.out, by omega, HTk, HMb, HB⟩
              case measure => simp [intOf]; omega
            | true =>
              have HBc := Aside0.mk (refBytes_calls r h0 (Rd.of_own HMb.out.row) (by have := HIl.out; omega) HTk.out)
              have HGd := Aside0.mk (HTk.out.good r)
              have HLn : Aside0 ((bytesM (pushAll (newM r) ins')).length ≤ 1000000) := ⟨by have z := bytesM_small HGd.out; have y := HIl.out; omega⟩
              go_wp2_with fail
              refine HBc.out.mono ?_
              rintro en W1b ⟨vw, rfl, hrw, hbw⟩
              obtain ⟨Aw, nw, qw, ew, HNw⟩ := Kb.R_sliceN hrw
              subst ew
              have HMb1 := Aside0.mk (HMb.out.below hbw)
              have HB1 := Aside0.mk (below_step HB.out hbw)
              have HWr : Aside0 (Kd.R (Kd.int .u8) 5 W1b w.heap.size (fun k => τ k = 0 ∧ k < W1b.heap.size) (.slice Aw nw qw) (bytesM (pushAll (newM r) ins'))) := ⟨Kd.R_lower (Kd.R_mono (Kd.R_bound hrw) (fun k hk => ⟨HMb.out.book.new k hk.2.1, hk.2.2.1⟩)) HB.out.size⟩
              have HBy := Aside0.mk (bytes_calls HMb1.out.mka (by have z := HGd.out.data; have y := HIl.out; omega) (by have z := HGd.out.places; have y := HIl.out; omega) HGd.out.bytes (fun p hp => by have z := HGd.out.small p hp; have z2 := HGd.out.data; have y := HIl.out; omega) (HT.out.below HB1.out))
              clear hrw hbw HBc
              go_wp2_with fail
              refine HBy.out.mono ?_
              rintro en W2b ⟨A3, n3, c3, l3, rfl, hl3, hd3, hR3, hb3⟩
              subst hl3
              have HMb2 := Aside0.mk (HMb1.out.below hb3)
              have HB2 := Aside0.mk (below_step HB1.out hb3)
              have HWr2 := Aside0.mk (Kd.R_below HWr.out hb3)
              have HR3 : Aside0 (Kd.R (Kd.int .u8) 5 W2b gb (fun k => τ k = 0 ∧ W1b.heap.size ≤ k) (.slice A3 n3 c3) (bytesM (pushAll (newM r) ins'))) := ⟨Kd.R_lower (Kd.R_mono (Kd.R_bound hR3) (fun k hk => ⟨HMb1.out.book.new k hk.2.1, hk.2.1⟩)) HMb1.out.book.size⟩
              have HSm : Aside0 (Calls Tryz.prog 13 #[.slice A3 n3 c3, .slice Aw nw qw] W2b fun e w' => e = .returned (.bool true) ∧ Below W2b.heap.size W2b w') := ⟨by
                have z := same_calls hd3 (Rd.of_own HWr2.out) (by have y := HLn.out; omega)
                rw [decide_eq_true rfl] at z
                exact z⟩
              clear hd3 hR3 hb3 HBy HWr
              go_wp2_with fail
              refine HSm.out.mono ?_
              rintro en W3b ⟨rfl, hb4⟩
              have HMb3 := Aside0.mk (HMb2.out.below hb4)
              have HB3 := Aside0.mk (below_step HB2.out hb4)
              have HWr3 := Aside0.mk (Kd.R_below HWr2.out hb4)
              have HR4 := Aside0.mk (Kd.R_below HR3.out hb4)
              have HSz : Aside0 (Calls Tryz.prog 7 #[.pointer (some ⟨gm, 0, none⟩)] W3b fun e w' => e = .returned (.int .i64 (nw : Int)) ∧ ∃ n, w' = W3b.drewN n) := ⟨by
                have z := size_calls HMb3.out.mka (by have z := HGd.out.data; have y := HIl.out; omega) (by have z := HGd.out.places; have y := HIl.out; omega)
                rw [← szM_len, ← HNw.out] at z
                exact z⟩
              clear hb4 HSm HWr2 HR3
              go_wp2_with fail
              refine HSz.out.mono ?_
              rintro en W4b ⟨rfl, nd, hnd⟩
              have hb5 : Below W3b.heap.size W3b W4b := by rw [hnd]; exact pw_below_drewN (Below.refl _ _) nd
              have HMb4 := Aside0.mk (HMb3.out.below hb5)
              have HB4 := Aside0.mk (below_step HB3.out hb5)
              have HWr4 := Aside0.mk (Kd.R_below HWr3.out hb5)
              have HR5 := Aside0.mk (Kd.R_below HR4.out hb5)
              have HBk := Aside0.mk (fun mark : Int => Kb.bytes_calls (mark := mark) HMb4.out.book (by omega) (Kd.R_mono HR5.out (fun _ hk => hk.1)) (by have z := HLn.out; unfold LB; omega))
              clear hnd hb5 HSz HWr3 HR4
              go_wp2_with fail
              refine (HBk.out _).mono ?_
              rintro en W5b ⟨rfl, τ', hBk, hbel, hkk⟩
              have HMb5 : Aside0 (Mb W5b τ' gm gb (N + 2) w.heap.size (pushAll (newM r) ins') m1 m2 (.slice A' n' q') ins') := ⟨HMb4.out.hand hBk hkk hbel.size (fun k hk e => by
                have h1 := (HR5.out.1 k e.symm).2
                have h2 := HMb1.out.lt hk
                omega) (fun k hk => by
                obtain ⟨inner, ho⟩ := Kd.R_own HR5.out
                exact own_typed ho k hk)⟩
              have HB5 : Aside0 (Below w.heap.size w W5b) := ⟨HB4.out.trans (hbel.mono HG2.out.2)⟩
              have HWr5 : Aside0 (Kd.R (Kd.int .u8) 5 W5b w.heap.size (fun _ => True) (.slice Aw nw qw) (bytesM (pushAll (newM r) ins'))) := ⟨Kd.R_mono (Kd.R_step HWr4.out (fun k hk hlt => (hkk k hlt hk.1 (fun e => by
                have h1 := (HR5.out.1 k e.symm).2
                have h2 := hk.2
                omega)).1)) (fun _ _ => trivial)⟩
              have HHo := Aside0.mk (HMb5.out.book.hold (by omega))
              clear hBk hbel hkk HBk HR5 HWr4 HMb4 HMb3 HMb2 HB1 HB2 HB3 HB4
              go_wp2_with fail
              refine HHo.out.mono ?_
              rintro en W6b ⟨rfl, nd, hnd⟩
              have hb6 : Below W5b.heap.size W5b W6b := by rw [hnd]; exact pw_below_drewN (Below.refl _ _) nd
              have HMb6 := Aside0.mk (HMb5.out.below hb6)
              have HB6 := Aside0.mk (below_step HB5.out hb6)
              have HWr6 := Aside0.mk (Kd.R_below HWr5.out hb6)
              have HBy := Aside0.mk (bytes_calls HMb6.out.mka (by have z := HGd.out.data; have y := HIl.out; omega) (by have z := HGd.out.places; have y := HIl.out; omega) HGd.out.bytes (fun p hp => by have z := HGd.out.small p hp; have z2 := HGd.out.data; have y := HIl.out; omega) (HT.out.below HB6.out))
              clear hnd hb6 HHo HWr5 HB5
              go_wp2_with fail
              refine HBy.out.mono ?_
              rintro en W7b ⟨A4, n4, c4, l4, rfl, hl4, hd4, -, hb7⟩
              subst hl4
              have HMb7 := Aside0.mk (HMb6.out.below hb7)
              have HB7 := Aside0.mk (below_step HB6.out hb7)
              have HSm : Aside0 (Calls Tryz.prog 13 #[.slice A4 n4 c4, .slice Aw nw qw] W7b fun e w' => e = .returned (.bool true) ∧ Below W7b.heap.size W7b w') := ⟨by
                have z := same_calls hd4 (Rd.of_own (Kd.R_below HWr6.out hb7)) (by have y := HLn.out; omega)
                rw [decide_eq_true rfl] at z
                exact z⟩
              clear hd4 hb7 HBy HWr6
              go_wp2_with fail
              refine HSm.out.mono ?_
              rintro en W8b ⟨rfl, hb8⟩
              have HMb8 := Aside0.mk (HMb7.out.below hb8)
              have HB8 := Aside0.mk (below_step HB7.out hb8)
              clear hb8 HSm HMb7 HB7 HMb6 HB6 HMb5 HMb HB HMb1 HGd HLn HNw
              go_wp2_with fail
              go_roundw
              case rel => exact ⟨k + 1, ins', τ', N + 2, m1, m2, by go_num, by omega, HIl.out, by omega, HTk, HMb8, HB8⟩
              case measure => simp [intOf]; omega
      · have HHo := Aside0.mk (HMb.out.book.hold (by omega))
        go_wp2_with fail
        refine HHo.out.mono ?_
        rintro en W6b ⟨rfl, nd, hnd⟩
        have HB6 : Aside0 (Below w.heap.size w W6b) := ⟨by rw [hnd]; exact pw_below_drewN HB.out nd⟩
        clear hnd
        go_wp2_with fail
        go_ret
        exact ⟨rfl, HB6.out⟩
end Go.Proofs.YtaonjmkfbfhanaaGreatDoor.Bk
namespace Go.Proofs.YtaonjmkfbfhanaaGreatDoor.BlockMakes
open Go.RowKit Go.Proofs.YtaonjmkfbfhanaaGreatDoorW.PrintWords Go.Proofs.YtaonjmkfbfhanaaGreatDoor.Own Go.Proofs.YtaonjmkfbfhanaaGreatDoor.Wk Go.Proofs.YtaonjmkfbfhanaaGreatDoor.QBo
set_option linter.unusedVariables false
theorem walk (a0 : Int) (w0 : (Lit.int .i64 a0).wf = true) (A1 : Option Addr) (c1 : Nat) (l1 : List Opn.En) {w' : World} (hr1 : Opn.kEn.C w' A1 l1.length l1) (hc1 : l1.length ≤ c1) (hg1 : Opn.GEs l1) (a2 : Int) (w2 : (Lit.int .i64 a2).wf = true) (w : World) (hT : GT w) (e : w' = w := by rfl) :
    Calls Tryz.prog 3 #[.int .i64 a0, .slice A1 l1.length c1, .int .i64 a2] w fun e w' => e = .returned (.bool true) ∧ Below w.heap.size w w' := by
  subst e
  have x0 : -9223372036854775808 ≤ a0 ∧ a0 ≤ 9223372036854775807 := by simpa [Lit.wf, IntKind.min, IntKind.max, IntKind.signed, IntKind.bits] using w0
  exact Bk.bmakes_walk a0 x0.2 a2 ⟨rfl, hc1, hr1⟩ hg1.1 (Bk.enW_of hg1).2 (Bk.enW_of hg1).1 hT
end Go.Proofs.YtaonjmkfbfhanaaGreatDoor.BlockMakes
namespace Go.Proofs.YtaonjmkfbfhanaaGreatDoor.blockMakes
open Go.ChangeShapes Go.WideShapes Go.ChangeAt Go.RowKit
open Go.ChangeMaps (open_string shut_string)
set_option linter.unusedVariables false
theorem own : ownKnob Tryz.prog.godebug = none := by kernel_rfl
theorem laidOut : laidOutB Tryz.prog = true := by kernel_rfl
def IsRow (k : IntKind) (w : World) (a : Option Addr) (len cap : Nat) (zs : List Int) : Prop :=
  (a = none ∧ len = 0 ∧ cap = 0 ∧ zs = []) ∨
  ∃ x, a = some x ∧ len ≤ cap ∧ cap ≤ maxLen ∧ zs.length = cap ∧ (∀ i, i < zs.length → w.cell? (x.add i) = some (.int k (zs.getD i 0))) ∧ ∀ n ∈ zs, (Lit.int k n).wf = true
theorem gTab : Tryz.prog.globalNamed "scree/codec.nibbles" = some 0 := by kernel_rfl
theorem gTabType : (Tryz.prog.globals[0]?).map (·.type) = some 117 := by kernel_rfl
theorem cellsA : Tryz.prog.cellsOf 117 = 16 := by kernel_rfl
theorem cellsE : Tryz.prog.cellsOf 91 = 1 := by kernel_rfl
theorem table {W : World} (h : laidMetH Tryz.prog Rows.blockMakesRow.laid W) : Lib.TabIs Tryz.prog W "scree/codec.nibbles" .u32 Own.nibs :=
  Lib.tabIs_of_head (rest := []) gTab gTabType Tryz.underlying117 Tryz.underlying91 cellsE cellsA (laidMet.tail (laidMet.tail (laidMet.tail h)))
theorem gt {W : World} (h : laidMetH Tryz.prog Rows.blockMakesRow.laid W) : Own.GT W := fun i hi => by
  have hl : i < Own.nibs.length := by simpa [Own.nibs] using hi
  have := (table h).cell gTab i hl
  simpa [List.getD_eq_getElem?_getD, hl] using this
set_option maxRecDepth 100000 in
theorem contract (H : Type) (enc : TypeId × Value → H) (W : World) (base : Nat) (args : Array Value) (ds gs : List (DataW H)) (before : List MemPlace)
    (hval : ∀ (j : Nat) t v, Tryz.f3.params[j]? = some t → args[j]? = some v → Value.okWide Tryz.prog W .any base t v)
    (hW : DataW.Whole enc Tryz.prog Tryz.f3.params.toList Rows.blockMakesSpec.vars false W args.toList ds gs before)
    (hsz0 : (DataW.weightsEach Tryz.prog (Tryz.f3.params.toList ++ Rows.blockMakesSpec.plain.varTypes Tryz.prog) (ds ++ gs)).all (· ≤ reachBytes) = true) (hL : laidMetH Tryz.prog Rows.blockMakesRow.laid W) :
    Calls Tryz.prog 3 args W fun e W' => ∃ v, e = .returned v ∧ Rows.blockMakesSpec.post enc Tryz.prog Tryz.f3 false true false false W args v W' := by
  have hW' := hW
  have hsz := hsz0
  obtain ⟨p, q, hA0, hV, rfl, hfz, hnd⟩ := hW
  have hA : DataW.TrodAll enc Tryz.prog W 0 (fun _ => true) true Tryz.f3.params.toList args.toList ds p := hA0
  rw [Tryz.params3] at hA hval hsz
  obtain ⟨v0, vs0, d0, ds0, p0, q0, hargs, rfl, rfl, h0, r0⟩ := trodAll_cons hA
  obtain ⟨v1, vs1, d1, ds1, p1, q1, rfl, rfl, rfl, h1, r1⟩ := trodAll_cons r0
  obtain ⟨v2, vs2, d2, ds2, p2, q2, rfl, rfl, rfl, h2, r2⟩ := trodAll_cons r1
  obtain ⟨rfl, rfl, rfl⟩ := trodAll_nil r2
  obtain rfl : args = #[v0, v1, v2] := by cases args; simp_all
  obtain ⟨rfl, rfl⟩ := trodVars_none hV
  obtain ⟨a0, rfl, rfl, rfl, w0⟩ := open_int Tryz.underlying3 (hval 0 3 v0 rfl rfl) h0
  obtain ⟨a1, len1, cap1, rfl⟩ := okWide_slice Tryz.underlying22 (hval 1 22 v1 rfl rfl)
  have k1 := h1
  have lt1 : ∀ x ∈ p1, x.block < W.heap.size := by obtain ⟨m, hm⟩ := k1; exact DataW.trod_lt m _ _ _ hm
  obtain ⟨l1, el1, hr1, hc1, hg1, dz1⟩ := Opn.entries_arg (j := 1) hsz rfl rfl h1
  subst el1
  obtain ⟨a2, rfl, rfl, rfl, w2⟩ := open_int Tryz.underlying3 (hval 2 3 v2 rfl rfl) h2
  refine (BlockMakes.walk a0 w0 a1 cap1 l1 hr1 hc1 hg1 a2 w2 W (gt hL)).mono fun e W' ⟨he, bel⟩ => ?_
  subst he
  exact ⟨_, rfl, _, _, _, [], _, [], hW', trodAll_mk1 (shut_bool Tryz.underlying4 _), (trodAll_cons_mk (shut_int Tryz.underlying3 w0) (trodAll_cons_mk (Below.trod laidOut (by kernel_rfl) (of_decide_eq_true (by kernel_rfl)) k1 bel lt1) (trodAll_cons_mk (shut_int Tryz.underlying3 w2) trodAll_mk0))), rfl, bel.frame _, fun h => by cases h⟩
noncomputable def laidWorld (os : Os) : World :=
  { World.holding Tryz.prog os ⟨#[], #[], []⟩ with heap := (((((World.holding Tryz.prog os ⟨#[], #[], []⟩).heap.modify 2 fun
      | .cells _ t frozen => .cells #[.int .u8 0, .int .u8 1, .int .u8 28, .int .u8 2, .int .u8 29, .int .u8 14, .int .u8 24, .int .u8 3, .int .u8 30, .int .u8 22, .int .u8 20, .int .u8 15, .int .u8 25, .int .u8 17, .int .u8 4, .int .u8 8, .int .u8 31, .int .u8 27, .int .u8 13, .int .u8 23, .int .u8 21, .int .u8 19, .int .u8 16, .int .u8 7, .int .u8 26, .int .u8 12, .int .u8 18, .int .u8 6, .int .u8 11, .int .u8 5, .int .u8 10, .int .u8 9] t frozen
      | o => o).modify 3 fun
      | .cells _ t frozen => .cells #[.int .u8 0, .int .u8 1, .int .u8 56, .int .u8 2, .int .u8 57, .int .u8 49, .int .u8 28, .int .u8 3, .int .u8 61, .int .u8 58, .int .u8 42, .int .u8 50, .int .u8 38, .int .u8 29, .int .u8 17, .int .u8 4, .int .u8 62, .int .u8 47, .int .u8 59, .int .u8 36, .int .u8 45, .int .u8 43, .int .u8 51, .int .u8 22, .int .u8 53, .int .u8 39, .int .u8 33, .int .u8 30, .int .u8 24, .int .u8 18, .int .u8 12, .int .u8 5, .int .u8 63, .int .u8 55, .int .u8 48, .int .u8 27, .int .u8 60, .int .u8 41, .int .u8 37, .int .u8 16, .int .u8 46, .int .u8 35, .int .u8 44, .int .u8 21, .int .u8 52, .int .u8 32, .int .u8 23, .int .u8 11, .int .u8 54, .int .u8 26, .int .u8 40, .int .u8 15, .int .u8 34, .int .u8 20, .int .u8 31, .int .u8 10, .int .u8 25, .int .u8 14, .int .u8 19, .int .u8 9, .int .u8 13, .int .u8 8, .int .u8 7, .int .u8 6] t frozen
      | o => o).modify 1 fun
      | .cells _ t frozen => .cells #[.int .u64 1, .int .u64 10, .int .u64 100, .int .u64 1000, .int .u64 10000, .int .u64 100000, .int .u64 1000000, .int .u64 10000000, .int .u64 100000000, .int .u64 1000000000, .int .u64 10000000000, .int .u64 100000000000, .int .u64 1000000000000, .int .u64 10000000000000, .int .u64 100000000000000, .int .u64 1000000000000000, .int .u64 10000000000000000, .int .u64 100000000000000000, .int .u64 1000000000000000000, .int .u64 10000000000000000000] t frozen
      | o => o).modify 0 fun
      | .cells _ t frozen => .cells #[.int .u32 0, .int .u32 274646895, .int .u32 549293790, .int .u32 820201905, .int .u32 1098587580, .int .u32 1361435347, .int .u32 1640403810, .int .u32 1905808397, .int .u32 2197175160, .int .u32 2460548119, .int .u32 2722870694, .int .u32 2987750089, .int .u32 3280807620, .int .u32 3553878443, .int .u32 3811616794, .int .u32 4084100981] t frozen
      | o => o) }
theorem laid_met (os : Os) : laidMet Tryz.prog Rows.blockMakesRow.laid ((laidWorld os).forCall (fun _ _ => 0) ⟨#[], #[.int .i64 0, .slice none 0 0, .int .i64 0], []⟩).memory :=
  laidMet_of_run' 8 (by kernel_rfl) (by kernel_rfl)
theorem reads (os : Os) {H : Type} (enc : TypeId × Value → H) : ∃ places, DataW.whole enc Tryz.prog ((laidWorld os).forCall (fun _ _ => 0) ⟨#[], #[.int .i64 0, .slice none 0 0, .int .i64 0], []⟩).memory Tryz.f3.params.toList Rows.blockMakesSpec.vars false #[.int .i64 0, .slice none 0 0, .int .i64 0].toList 8 = some ([.lit (.int .i64 0), .nil, .lit (.int .i64 0)], [], places) :=
  ⟨[], by kernel_rfl⟩
set_option maxRecDepth 100000 in
theorem lifted (os : Os) (started : os.Started) (H : Type) (enc : TypeId × Value → H) (F : Stop.Interp) :
    ReturnsInHanded {} Tryz.checked os 3 .any ((OpenSpec.ofChange Rows.blockMakesSpec).preRow enc Tryz.prog Tryz.f3 Rows.blockMakesRow.domain false Rows.blockMakesRow.laid) (((OpenSpec.ofChange Rows.blockMakesSpec).at F).post enc Tryz.prog Tryz.f3 false true false false) := by
  obtain ⟨places, hx⟩ := reads os enc
  refine returnsInHanded_of_row (C := Tryz.checked) (s := OpenSpec.ofChange Rows.blockMakesSpec) own started (by kernel_rfl) Tryz.func3
    (witness_row_at (enc := enc) (C := Tryz.checked) false (laidWorld os) #[.int .i64 0, .slice none 0 0, .int .i64 0] rfl (by kernel_rfl) (by kernel_rfl) (by kernel_rfl)
      (OpenSpec.preRow_of_cond 8 hx (by kernel_rfl) (fun k hk => by cases hk) (by kernel_rfl) (laid_met os))) ?_
  intro W base args ds gs before hval hW _ _ hsz hL _ _
  exact contract H enc W base args ds gs before hval hW hsz hL
theorem said : Rows.BlockMakesSaid :=
  OpenClaim.holds_of_cond 3 Tryz.f3 rfl rfl rfl rfl rfl rfl rfl ⟨rfl, rfl, rfl, rfl, rfl⟩ rfl rfl rfl rfl rfl (by kernel_rfl) Tryz.func3 (by kernel_rfl)
    (of_decide_eq_true (by kernel_rfl)) (by unfold Func.isWrapper; first | (rw [if_pos (by decide +kernel)]; kernel_rfl) | (rw [if_neg (by decide +kernel)]; exact ⟨rfl, rfl⟩))
    (fun os started H enc _ F => by rw [OpenClaim.pre_eq_preRow]; exact lifted os started H enc F)
theorem plain (f : FuncId) (fn : Func) (hf : Tryz.pinned.checked.prog.funcNamed "scree/screelaw9.BlockMakes" = some f) (hfn : Tryz.pinned.checked.prog.funcs[f]? = some fn) :
    false = Tryz.pinned.checked.prog.looks [] ∧ ∀ (j : Nat) t, fn.params[j]? = some t → Tryz.pinned.checked.prog.wantsStandIn t = false := by
  obtain rfl : f = 3 := Option.some.inj ((show Tryz.prog.funcNamed "scree/screelaw9.BlockMakes" = some 3 by kernel_rfl).symm.trans hf) |>.symm
  obtain rfl : fn = Tryz.f3 := (Option.some.inj (Tryz.func3.symm.trans hfn)).symm
  refine ⟨by kernel_rfl, fun j t ht => ?_⟩
  rw [Tryz.params3] at ht
  have hm : t ∈ [3, 22, 3] := by have := Array.mem_of_getElem? ht; simpa using this
  have hall : ([3, 22, 3].all fun u => !Tryz.prog.wantsStandIn u) = true := by kernel_rfl
  exact (show Tryz.prog.wantsStandIn t = false by simpa using List.all_eq_true.1 hall t hm)
theorem proved : Rows.BlockMakesCardSaid :=
  Claim7.holds_tied_plain_at .later [] _ _ _ _ said (fun _ h => by cases h) (by kernel_rfl) (fun _ h => by cases h) blockMakes_row_tie rfl ⟨rfl, rfl⟩ (by kernel_rfl) rfl plain (by kernel_rfl)
#print axioms proved
end Go.Proofs.YtaonjmkfbfhanaaGreatDoor.blockMakes
