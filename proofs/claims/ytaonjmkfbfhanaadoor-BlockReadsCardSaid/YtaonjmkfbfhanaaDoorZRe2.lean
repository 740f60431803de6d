/- Lemmas of this claim's own, put together: QBox0, QBox2, DMkL, QBox13, RfD, DMkS, DMkD, DMkK, DGvI, DGvN, DGvC, WAgain, QBox14, SmE, Bulk, Opn, OpE, WBBack, TnP, OpK, AgR, AgW, AnW, Room, RoomB, RoomH, RoomC, Sit. -/
import Derived.Test.YtaonjmkfbfhanaaDoorProg
import Derived.Below
import Derived.Deep.Draws
import Derived.Deep.AppendLies
import Derived.Maps.AppendAt
import Derived.OwnWalk
import Derived.Laws.BytesArg
import Derived.Laws.MakeOwn
import Derived.Laws.OwnMore
import Derived.Deep.OwnRows
import Derived.Tactics
import Derived.Lib.ConvBytes
import Derived.Laws.Slices
import Derived.WalkKit
import Derived.KernelRfl
import Derived.RowKit3
import Derived.Deep.LoopGhost
import Derived.Deep.QuietTactic
import Derived.BigQuiet
import Derived.WideLaws
import Derived.Deep.DeepCutAuto
import Derived.Deep.CutBlock
import Derived.Deep.RegionHeld3
import Derived.Laws.Rows
import Derived.Lib.AppendStr
import Derived.ArgAppend
import Derived.Laws.IdiomCopy
import Derived.OrdersHeld
import Derived.Laws.BitsLemmas
import Derived.RowKit
import Derived.Test.YtaonjmkfbfhanaaDoorZTn8
import Derived.Test.YtaonjmkfbfhanaaDoorZRe1
import Derived.RangeFuncNested
import Derived.RangeFuncBound
import Derived.RangeFuncCalls
import Derived.RangeFuncLeaves
import Derived.RangeFuncBox
import Derived.Shelf.Abstract
import Derived.OwnWalkIn
import Derived.TacticsInMore
import Derived.LoopNIn
import Derived.LoopIn
import Derived.WalkLawsBesides
import Derived.Test.YtaonjmkfbfhanaaDoorRows
import Derived.ProofKit
import Derived.OpenShut
import Derived.Deep.Slices
import Derived.Deep.Fields
import Derived.ChangeSame
import Derived.ChangeArms
import Derived.SizedLaws
import Derived.Shelf.RegionOpen
import Derived.Sort.BigQuietIn
import Derived.Outline
import Derived.WalkSpells
namespace Go.Proofs.YtaonjmkfbfhanaaDoor.QBo
open Go.Proofs.YtaonjmkfbfhanaaDoor.Own
open Go.RowKit Go.Proofs.YtaonjmkfbfhanaaDoorW.PrintWords Go.Proofs.YtaonjmkfbfhanaaDoorW.PrintLast Go.Proofs.YtaonjmkfbfhanaaDoorW.PrintMore
attribute [local go_sem] max2_int min2_int max_two min_two max_three min_three max_four min_four   -- for this text's walks alone
set_option linter.unusedVariables false
set_option linter.unusedSimpArgs false
theorem k30_heap : Kd.Heap k30 := Kd.heap_iso _ (Kd.heap_pair Kd.heap_string (Kd.heap_pair (Kd.heap_int .u64) (Kd.heap_pair Kd.heap_bool Kd.heap_string)))
theorem k30_mk (w : World) (x : S30)  : k30.K w x [.string x.f0, .int .u64 x.f1, .bool x.f2, .string x.f3] := ⟨[.string x.f0], [.int .u64 x.f1, .bool x.f2, .string x.f3], rfl, rfl, ⟨[.int .u64 x.f1], [.bool x.f2, .string x.f3], rfl, rfl, ⟨[.bool x.f2], [.string x.f3], rfl, rfl, rfl⟩⟩⟩
end Go.Proofs.YtaonjmkfbfhanaaDoor.QBo
namespace Go.Proofs.YtaonjmkfbfhanaaDoor.QBo
open Go.Proofs.YtaonjmkfbfhanaaDoor.Own
open Go.RowKit Go.Proofs.YtaonjmkfbfhanaaDoorW.PrintWords Go.Proofs.YtaonjmkfbfhanaaDoorW.PrintLast Go.Proofs.YtaonjmkfbfhanaaDoorW.PrintMore
attribute [local go_sem] max2_int min2_int max_two min_two max_three min_three max_four min_four   -- for this text's walks alone
set_option linter.unusedVariables false
set_option linter.unusedSimpArgs false
theorem IsS98.lt {w0 W : World} {g : Nat} {f0 : List (S30)} {f1 : Int} (h : IsS98 w0 W g f0 f1) : g < W.heap.size := by
  obtain ⟨A0, c0, hb, hg, hr0⟩ := h
  exact blk_lt hb
theorem IsS98.ge {w0 W : World} {g : Nat} {f0 : List (S30)} {f1 : Int} (h : IsS98 w0 W g f0 f1) : w0.heap.size ≤ g := by
  obtain ⟨A0, c0, hb, hg, hr0⟩ := h
  exact hg
theorem IsS122.lt {w0 W : World} {g : Nat} {f0 : Int} {f1 : List Int} {f2 : List Int} {f3 : Int} {f4 : ByteArray} (h : IsS122 w0 W g f0 f1 f2 f3 f4) : g < W.heap.size := by
  obtain ⟨A1, c1, A2, c2, hb, hg, hr1, hr2⟩ := h
  exact blk_lt hb
theorem IsS122.ge {w0 W : World} {g : Nat} {f0 : Int} {f1 : List Int} {f2 : List Int} {f3 : Int} {f4 : ByteArray} (h : IsS122 w0 W g f0 f1 f2 f3 f4) : w0.heap.size ≤ g := by
  obtain ⟨A1, c1, A2, c2, hb, hg, hr1, hr2⟩ := h
  exact hg
end Go.Proofs.YtaonjmkfbfhanaaDoor.QBo
namespace Go.Proofs.YtaonjmkfbfhanaaDoor.Bk
open Go.RowKit Go.Proofs.YtaonjmkfbfhanaaDoorW.PrintWords Go.Proofs.YtaonjmkfbfhanaaDoor.Own Go.Proofs.YtaonjmkfbfhanaaDoor.G Go.Proofs.YtaonjmkfbfhanaaDoor.U
set_option linter.unusedVariables false
theorem addM_no {m : Mk} {e : En} (h : (addM m e).1 ≠ 0) : (addM m e).2 = m := by
  unfold addM at h ⊢
  by_cases h1 : wrongE e ≠ 0
  · rw [if_pos h1]
  · rw [if_neg h1] at h ⊢
    by_cases h2 : 0 < m.n ∧ leK e.f0 m.last = true
    · rw [if_pos h2]
    · rw [if_neg h2] at h
      exact absurd rfl h
theorem made_push : ∀ (l : List En) (m : Mk), addsM m (madeM m l).1 = some (madeM m l).2 := by
  intro l
  induction l with
  | nil => intro m; rfl
  | cons e l ih =>
    intro m
    unfold madeM
    by_cases h0 : (addM m e).1 = 0
    · rw [if_pos h0]
      show addsM m (e :: (madeM (addM m e).2 l).1) = _
      unfold addsM
      rw [if_pos h0]
      exact ih _
    · rw [if_neg h0, addM_no h0]
      exact ih m
end Go.Proofs.YtaonjmkfbfhanaaDoor.Bk
namespace Go.Proofs.YtaonjmkfbfhanaaDoor.QBo
open Go.Proofs.YtaonjmkfbfhanaaDoor.Own
open Go.RowKit Go.Proofs.YtaonjmkfbfhanaaDoorW.PrintWords Go.Proofs.YtaonjmkfbfhanaaDoorW.PrintLast Go.Proofs.YtaonjmkfbfhanaaDoorW.PrintMore
attribute [local go_sem] max2_int min2_int max_two min_two max_three min_three max_four min_four   -- for this text's walks alone
set_option linter.unusedVariables false
set_option linter.unusedSimpArgs false
attribute [local go_sem high] eqA30
theorem IsS91.lt {w0 W : World} {g : Nat} {f0 : Int} (h : IsS91 w0 W g f0) : g < W.heap.size := by
  obtain ⟨hb, hg⟩ := h
  exact blk_lt hb
set_option maxHeartbeats 8000000 in
set_option maxRecDepth 100000 in
theorem screeroom_Count_Text.calls (g : Nat) (s0_0 : Int) (a1 : ByteArray) (r : Int) (w0 w : World) (hI : IsS91 w0 w g s0_0) (hB : Below w0.heap.size w0 w) (h : screeroom_Count_Text.f s0_0 a1 = some r) :
    Calls Tryd.prog 64 #[.pointer (some ⟨g, 0, none⟩), .string a1] w fun e w' => e = .returned (.tuple #[]) ∧ IsS91 w0 w' g r ∧ Below w0.heap.size w0 w' ∧ KeepBut w w' g none := by
  have HI0 := Aside0.mk hI
  have HK := Aside0.mk (KeepBut.refl w g none)
  have HL := Aside0.mk hB.size
  clear hI
  have HW0 := Aside0.mk hB.size
  have HB := Aside0.mk hB
  clear hB
  have H : ((screeroom_Count_Add.f s0_0 (wrap64 (1 + (a1.size : Int)))).bind fun bt403 => (some bt403.2)) = some r := h
  clear h
  replace H := Option.bind_eq_some_iff.mp H
  obtain ⟨⟨t403, t404⟩, A30, H⟩ := H
  replace H : (some t404) = some r := H
  have A3 := Aside0.mk A30
  clear A30
  obtain rfl := Option.some.inj H
  go_enter Tryd.func64, Tryd.ntmps64
  go_wp2_with (first | ((with_reducible refine gate_callee (f := 38) rfl ?_); refine goesL_ (some 8) rfl rfl Tryd.func38 (by kernel_rfl) rfl #[.pointer (some ⟨g, 0, none⟩), .int .i64 (wrap64 (1 + (a1.size : Int)))] rfl (by (try simp only [List.map_toArray, List.map_cons, List.map_nil]); first | done | rfl | (simp only [List.length_drop, List.length_take]; rfl)) ?_; (with_reducible refine (screeroom_Count_Add.calls g s0_0 (wrap64 (1 + (a1.size : Int))) t403 t404 w0 _ ?side1 ?side2 A3.out).mono ?_); (case side1 => repeat (first | (with_reducible first | exact HI0.out | apply IsS91.alloc | apply IsS91.drewN | apply IsS91.drew | apply IsS91.set_0) | exact HI0.out)); (case side2 => repeat (first | (with_reducible first | exact HB.out | apply below_alloc | apply pw_below_drewN | apply below_drew1 | refine below_set ?_ (IsS91.ge HI0.out)) | exact HB.out)); rintro e w4 ⟨rfl, hi, hb, hk⟩; refine ⟨_, rfl, ?_⟩; have n0_ := Aside0.mk (KeepBut.trans (by repeat (first | (with_reducible first | exact HK.out | apply KeepBut.set_ | apply keep_drewN | apply keep_drew | apply keep_alloc) | exact HK.out)) hk (.inl rfl)); have n1_ := Aside0.mk (hb); have n2_ := Aside0.mk (hi); clear HK; clear HB; clear HI0; have HK := n0_; have HB := n1_; have HI0 := n2_; clear n0_ n1_ n2_; (try clear hb); (try clear hb2); (try clear hk); (try clear hi)))
  first | go_end0 | ((try simp only [Exit.inBlock, Exit.then]); refine bodyPost_ret (results_none rfl _ _ _) rfl ?_)
  exact ⟨by first | rfl | (simp [errW_none, errW_some] <;> rfl) | (simp [*, errW_none, errW_some] <;> rfl), by repeat (first | (with_reducible first | exact HI0.out | apply IsS91.alloc | apply IsS91.drewN | apply IsS91.drew | apply IsS91.set_0) | exact HI0.out), by repeat (first | (with_reducible first | exact HB.out | apply below_alloc | apply pw_below_drewN | apply below_drew1 | refine below_set ?_ (IsS91.ge HI0.out)) | exact HB.out), by repeat (first | (with_reducible first | exact HK.out | apply KeepBut.set_ | apply keep_drewN | apply keep_drew | apply keep_alloc) | exact HK.out)⟩
end Go.Proofs.YtaonjmkfbfhanaaDoor.QBo
namespace Go.Proofs.YtaonjmkfbfhanaaDoor.Rf
open Go.RowKit Go.Proofs.YtaonjmkfbfhanaaDoorW.PrintWords Go.Proofs.YtaonjmkfbfhanaaDoor.Own Go.Proofs.YtaonjmkfbfhanaaDoor.G Go.Proofs.YtaonjmkfbfhanaaDoor.Wk Go.Proofs.YtaonjmkfbfhanaaDoor.QBo Go.Proofs.YtaonjmkfbfhanaaDoor.Bk
set_option linter.unusedVariables false
theorem refAdds_calls {w : World} {A : Option Addr} {n c : Nat} {es : List En} (x : En) (h : Rd kE w A n c es) (hl : es.length ≤ 4611686018427387) (ht : Taken es) (hx : x.f0.size < 4611686018427387904) :
    Calls Tryd.prog 11 #[.slice A n c, .agg #[.string x.f0, .int .u64 x.f1, .bool x.f2, .string x.f3]] w fun e w' => e = .returned (.int .i64 (addM (pushAll (newM 1) es) x).1) ∧ Below w.heap.size w w' := by
  obtain ⟨e1, h2, h3⟩ := h
  subst e1
  have hkl := ht.last
  obtain ⟨k, hk⟩ := (adds_f es x (pushAll (newM 1) es) hkl.2.1 hkl.2.2 (by omega) hx (by omega)).rounds
  exact screeref9_Adds.calls k A c es x.f0 x.f1 x.f2 x.f3 _ w h3 h2 hk
theorem refBytes_calls {w : World} {A : Option Addr} {n c : Nat} {es : List En} (r : Int) (hr : r ≤ 9223372036854775807) (h : Rd kE w A n c es) (hl : es.length ≤ 1000000) (ht : Taken es) :
    Calls Tryd.prog 12 #[.slice A n c, .int .i64 r] w fun e w' => ∃ v : Value, e = .returned v ∧ Kd.R (Kd.int .u8) 5 w' w.heap.size (fun _ => True) v (bytesM (pushAll (newM r) es)) ∧ Below w.heap.size w w' := by
  obtain ⟨e1, h2, h3⟩ := h
  subst e1
  obtain ⟨k, hk⟩ := (bytes_f r hr es ht.ok hl (ht.bytes r)).rounds
  exact screeref9_Bytes.calls k A c es r _ w h3 h2 hk
end Go.Proofs.YtaonjmkfbfhanaaDoor.Rf
namespace Go.Proofs.YtaonjmkfbfhanaaDoor.Bk
open Go.RowKit Go.Proofs.YtaonjmkfbfhanaaDoorW.PrintWords Go.Proofs.YtaonjmkfbfhanaaDoor.Own Go.Proofs.YtaonjmkfbfhanaaDoor.G Go.Proofs.YtaonjmkfbfhanaaDoor.Wk Go.Proofs.YtaonjmkfbfhanaaDoor.QBo
set_option linter.unusedVariables false
theorem same_l0 (l : List En) (hl : l.length ≤ 1000000000) : ∀ (d i : Nat), i + d = l.length → screelaw9_sameEntries.l0 (d + 1) l l (i : Int) = some true
  | 0, i, h => by
    unfold screelaw9_sameEntries.l0
    rw [if_neg (by omega)]
  | d + 1, i, h => by
    unfold screelaw9_sameEntries.l0
    rw [if_pos (by omega), if_pos (by omega), if_pos (by omega), if_neg (by simp)]
    have e : wrap64 ((i : Int) + 1) = ((i + 1 : Nat) : Int) := by unfold wrap64; omega
    rw [e]
    exact same_l0 l hl d (i + 1) (by omega)
theorem sameEntries_calls {w : World} {A1 A2 : Option Addr} {n1 c1 n2 c2 : Nat} {l : List En} (h1 : Kd.C kE w A1 n1 l) (hc1 : n1 ≤ c1) (h2 : Kd.C kE w A2 n2 l) (hc2 : n2 ≤ c2) (hl : l.length ≤ 1000000000) :
    Calls Tryd.prog 20 #[.slice A1 n1 c1, .slice A2 n2 c2] w fun e w' => e = .returned (.bool true) ∧ Below w.heap.size w w' := by
  have e1 : l.length = n1 := h1.1
  have e2 : l.length = n2 := h2.1
  subst e1
  subst e2
  refine (screelaw9_sameEntries.calls (l.length + 1) A1 c1 l A2 c2 l true w h1 hc1 h2 hc2 (by unfold screelaw9_sameEntries.f; rw [if_pos rfl]; exact same_l0 l hl l.length 0 (by omega))).mono ?_
  rintro e w' ⟨rfl, h⟩
  exact ⟨rfl, by first | exact h | exact h.below⟩
theorem same_calls {w : World} {A1 A2 : Option Addr} {n1 c1 n2 c2 : Nat} {l1 l2 : List Int} (h1 : Rd (Kd.int .u8) w A1 n1 c1 l1) (h2 : Rd (Kd.int .u8) w A2 n2 c2 l2) (hl : l1.length ≤ 1000000000) :
    Calls Tryd.prog 18 #[.slice A1 n1 c1, .slice A2 n2 c2] w fun e w' => e = .returned (.bool (decide (l1 = l2))) ∧ Below w.heap.size w w' := by
  obtain ⟨e1, hc1, h1⟩ := h1
  obtain ⟨e2, hc2, h2⟩ := h2
  subst e1
  subst e2
  refine (screelaw9_same.calls A1 c1 l1 A2 c2 l2 (decide (l1 = l2)) w h1 hc1 h2 hc2 (by unfold screelaw9_same.f; rw [if_pos (by omega)])).mono ?_
  rintro e w' ⟨rfl, h⟩
  exact ⟨rfl, by first | exact h | exact h.below⟩
end Go.Proofs.YtaonjmkfbfhanaaDoor.Bk
namespace Go.Proofs.YtaonjmkfbfhanaaDoor.Bk
open Go.RowKit Go.Proofs.YtaonjmkfbfhanaaDoorW.PrintWords Go.Proofs.YtaonjmkfbfhanaaDoor.Own Go.Proofs.YtaonjmkfbfhanaaDoor.G Go.Proofs.YtaonjmkfbfhanaaDoor.Wk Go.Proofs.YtaonjmkfbfhanaaDoor.QBo
set_option linter.unusedVariables false
theorem num_calls (c : Int) (w : World) : Calls Tryd.prog 19 #[.int .i64 c] w fun e w' => e = .returned (.int .i64 c) ∧ w' = w := by
  go_enter Tryd.func19, Tryd.ntmps19
  go_wp2_with fail
  go_ret
  exact ⟨rfl, rfl⟩
theorem kE_typed {q : Nat} (h : q ∈ 30 :: kE.E) : q = 30 := by
  rcases List.mem_cons.1 h with h | h
  · exact h
  · exact absurd h List.not_mem_nil
theorem MkAt.grown {W W1 : World} {base g : Nat} {m : Mk} {v1 v2 : Value} {row : Option Nat} (h : MkAt W base g m v1 v2) (hg : W.grownBy W1 row) (hr : ∀ k, row = some k → ∃ cs, W.heap[k]? = some (.cells cs 30 (0, 0))) : MkAt W1 base g m v1 v2 := by
  obtain ⟨h1, h2, h3, h4⟩ := h
  refine ⟨(hg.block g (blk_lt h1) (fun e => ?_)).trans h1, h2, Kd.R_mono (Kd.R_step (Kd.R_bound h3) (fun k hk hlt => ?_)) (fun _ _ => trivial), Kd.R_mono (Kd.R_step (Kd.R_bound h4) (fun k hk hlt => ?_)) (fun _ _ => trivial)⟩
  · obtain ⟨cs, hc⟩ := hr g e.symm
    rw [h1] at hc; injection hc with hc; injection hc with _ e3; exact absurd e3 (by decide)
  · obtain ⟨_, _, _, q, hq, cs, hc⟩ := hk
    have hq' : q = 5 := by
      rcases List.mem_cons.1 hq with h | h
      · exact h
      · exact absurd h List.not_mem_nil
    subst hq'
    exact hg.block k hlt (fun e => by
      obtain ⟨c2, e2⟩ := hr k e.symm
      rw [hc] at e2; injection e2 with e2; injection e2 with _ e3; exact absurd e3 (by decide))
  · obtain ⟨_, _, _, q, hq, cs, hc⟩ := hk
    have hq' : q = 3 := by
      rcases List.mem_cons.1 hq with h | h
      · exact h
      · exact absurd h List.not_mem_nil
    subst hq'
    exact hg.block k hlt (fun e => by
      obtain ⟨c2, e2⟩ := hr k e.symm
      rw [hc] at e2; injection e2 with e2; injection e2 with _ e3; exact absurd e3 (by decide))
end Go.Proofs.YtaonjmkfbfhanaaDoor.Bk
namespace Go.Proofs.YtaonjmkfbfhanaaDoor.Bk
open Go.RowKit Go.Proofs.YtaonjmkfbfhanaaDoorW.PrintWords Go.Proofs.YtaonjmkfbfhanaaDoor.Own Go.Proofs.YtaonjmkfbfhanaaDoor.G Go.Proofs.YtaonjmkfbfhanaaDoor.Wk Go.Proofs.YtaonjmkfbfhanaaDoor.QBo
set_option linter.unusedVariables false
def sA : ByteArray := ⟨#[97]⟩
def sAA : ByteArray := ⟨#[97, 97]⟩
theorem lt1 : ltK sA sAA = true := by kernel_rfl
end Go.Proofs.YtaonjmkfbfhanaaDoor.Bk
namespace Go.Proofs.YtaonjmkfbfhanaaDoor.Bk
open Go.RowKit Go.Shelf Go.Proofs.YtaonjmkfbfhanaaDoorW.PrintWords Go.Proofs.YtaonjmkfbfhanaaDoor.Own Go.Proofs.YtaonjmkfbfhanaaDoor.G Go.Proofs.YtaonjmkfbfhanaaDoor.Wk Go.Proofs.YtaonjmkfbfhanaaDoor.QBo
set_option linter.unusedVariables false
attribute [local go_sem] Oper.semAt_some
def eV (e : En) : Value := .agg #[.string e.f0, .int .u64 e.f1, .bool e.f2, .string e.f3]
set_option maxHeartbeats 1000000 in
theorem all_in (F : Fence) (n : Nat) (h47 : F.fn 47) (hro : F.round = none) (p : Option Addr) (w : World) :
    CallsIn F n Tryd.prog 47 #[.pointer p] w fun e w' => e = .returned (.func (.func 80) #[] #[.pointer (some ⟨w.heap.size, 0, none⟩)]) ∧ w' = w.alloc (.cells #[.pointer p] 39) := by
  refine callsIn_of_wp Tryd.func47 rfl h47 ?_ hro
  simp only [Tryd.ntmps47, List.size_toArray, List.length_cons, List.length_nil, Nat.reduceAdd, Nat.reduceSub, Array.replicate_succ, Array.replicate_zero, List.push_toArray, List.append_toArray, List.nil_append, List.cons_append]
  gi_wp2
  go_ret
  exact ⟨rfl, rfl⟩
set_option maxRecDepth 100000 in
set_option maxHeartbeats 2000000 in
theorem all1_in (F : Fence) (n : Nat) (h80 : F.fn 80) (hro : F.round = none) (hn : 1 ≤ n) (l Bs gk n1 c1 : Nat) (A : Option Addr) (es : List En) (w0 : World) (J Jx : List En → World → Prop)
    (hn1 : es.length = n1) (hgk : w0.cell? ⟨gk, 0, none⟩ = some (.slice A n1 c1)) (hC : Kd.C kE w0 A n1 es)
    (hJ : ∀ s X o, J s X → J s (X.alloc o))
    (hY : ∀ pre x W, J pre W → pre.length < n1 → YieldAt F (n - 1) Tryd.prog l #[eV x] W fun e W' =>
      (e = .returned (.bool true) ∧ J (pre ++ [x]) W' ∧ Below w0.heap.size W W') ∨ (e = .returned (.bool false) ∧ Jx (pre ++ [x]) W'))
    (W : World) (hW : Below w0.heap.size w0 W) (hBs : W.cell? ⟨Bs, 0, none⟩ = some (.pointer (some ⟨gk, 0, none⟩))) (h0 : J [] W) :
    CallsIn F n Tryd.prog 80 #[.func (.yield l) #[] #[], .pointer (some ⟨Bs, 0, none⟩)] W fun e W' => (∃ v, e = .returned v) ∧
      ((∃ ys, ys = es ∧ J ys W') ∨ (∃ pre, pre <+: es ∧ Jx pre W')) := by
  have hk0 : W.cell? ⟨gk, 0, none⟩ = some (.slice A n1 c1) := pw_cell_below hW hgk
  have hn9 : n1 ≤ 9223372036854775807 := hC.2.1
  have HC := Aside0.mk hC
  clear hC
  refine callsIn_of_wp Tryd.func80 rfl h80 ?_ hro
  simp only [Tryd.ntmps80, List.size_toArray, List.length_cons, List.length_nil, Nat.reduceAdd, Nat.reduceSub, Array.replicate_succ, Array.replicate_zero, List.push_toArray, List.append_toArray, List.nil_append, List.cons_append]
  gi_wp2
  gi_loopw [10] (fun i wr => ∃ k : Nat, k ≤ n1 ∧ i = .int .i64 k ∧ Aside0 (J (es.take k) wr) ∧ Aside0 (Below w0.heap.size W wr)) (fun i _ => n1 - (intOf i).toNat)
  case atStart => exact ⟨0, Nat.zero_le _, rfl, ⟨h0⟩, ⟨Below.refl _ _⟩⟩
  case round =>
    obtain ⟨k, hk, rfl, HJ, HB⟩ := hrel
    by_cases hlt : k < n1
    · obtain ⟨ad, ea, x0, x1, x2, x3⟩ := at_T30 (Kd.C_below HC.out (hW.trans HB.out)) (k : Int) (by omega) (by omega)
      subst ea
      obtain ⟨e, he⟩ : ∃ e, rd_T30 es (k : Int) = e := ⟨_, rfl⟩
      rw [he, Int.toNat_natCast] at x0 x1 x2 x3
      have hek : es[k]'(by omega) = e := by rw [← he]; simp [rd_T30, List.getD_eq_getElem?_getD, hn1, hlt]
      have HT : Aside0 (es.take (k + 1) = es.take k ++ [e]) := ⟨by rw [List.take_succ_eq_append_getElem (by omega), hek]⟩
      obtain ⟨fn, tmps, assign, body, hy, hR⟩ := hY (es.take k) e _ (hJ _ _ (.cells #[.string e.f0, .int .u64 e.f1, .bool e.f2, .string e.f3] 30) HJ.out) (by rw [List.length_take]; omega)
      have HBA : Aside0 (Below w0.heap.size W (wr.alloc (.cells #[.string e.f0, .int .u64 e.f1, .bool e.f2, .string e.f3] 30))) := ⟨HB.out.alloc (Nat.le_trans hW.size HB.out.size) _⟩
      unfold eV at hy
      clear he hek
      gi_wp2
      refine hR.mono ?_
      rintro en W3 (⟨rfl, hJ3, hk3⟩ | ⟨rfl, hJx3⟩)
      · have HJ3 := Aside0.mk hJ3
        have HB3 := Aside0.mk (HBA.out.trans hk3)
        clear hJ3 hk3
        gi_wp2
        go_roundw
        case rel => exact ⟨k + 1, by omega, by simp, by rw [HT.out]; exact HJ3, HB3⟩
        case measure => simp [intOf]; omega
      · have HX3 := Aside0.mk hJx3
        clear hJx3
        gi_wp2
        refine bodyPost_ret (results_none rfl _ _ _) rfl ?_
        exact ⟨⟨_, rfl⟩, .inr ⟨_, by rw [← HT.out]; exact List.take_prefix _ _, HX3.out⟩⟩
    · obtain rfl : k = n1 := by omega
      gi_wp2
      go_end0
      exact ⟨⟨_, rfl⟩, .inl ⟨_, List.take_of_length_le (by omega), HJ.out⟩⟩
end Go.Proofs.YtaonjmkfbfhanaaDoor.Bk
namespace Go.Proofs.YtaonjmkfbfhanaaDoor.Bk
open Go.RowKit Go.Shelf Go.Proofs.YtaonjmkfbfhanaaDoorW.PrintWords Go.Proofs.YtaonjmkfbfhanaaDoor.Own Go.Proofs.YtaonjmkfbfhanaaDoor.G Go.Proofs.YtaonjmkfbfhanaaDoor.Wk Go.Proofs.YtaonjmkfbfhanaaDoor.QBo
set_option linter.unusedVariables false
attribute [local go_sem] Oper.semAt_some
def cE (x : En) : List Value := [.string x.f0, .int .u64 x.f1, .bool x.f2, .string x.f3]
def givenL (n : Int) (es : List En) : List En := if n = 0 then [] else if 0 < n then es.take n.toNat else es
theorem all_stops (F : Fence) (n : Nat) (h80 : F.fn 80) (hro : F.round = none) (hn : 1 ≤ n) (Bs gk n1 c1 : Nat) (A : Option Addr) (es : List En) (w0 w : World)
    (hn1 : es.length = n1) (hgk : w0.cell? ⟨gk, 0, none⟩ = some (.slice A n1 c1)) (hC : Kd.C kE w0 A n1 es) (hB : Below w0.heap.size w0 w) (hBs : w.cell? ⟨Bs, 0, none⟩ = some (.pointer (some ⟨gk, 0, none⟩))) (hBl : Bs < w.heap.size) :
    SeqStopsK F n Tryd.prog 80 #[.pointer (some ⟨Bs, 0, none⟩)] (fun x : En => #[eV x]) (Below w0.heap.size) (fun ys => ys = es) (fun pre => pre <+: es) es.length w := fun l J Jx W hW hJ _ hY h0 =>
  all1_in F n h80 hro hn l Bs gk n1 c1 A es w0 J Jx hn1 hgk hC (fun s X o hs => hJ s X _ none hs (World.grownBy_alloc X o none) (fun r e => by cases e)) (by rw [← hn1]; exact hY) W (hB.trans (hW.mono hB.size)) ((hW.cell (p := ⟨Bs, 0, none⟩) hBl).trans hBs) h0
theorem block_own {β : Type} (B Bx : Nat) (cs : Array Value) (t : TypeId) : OwnFrom B (fun (_ : β) W => W.heap[Bx]? = some (.cells cs t (0, 0))) := fun s X Y row hs hg hrow =>
  (hg.block Bx (blk_lt hs) (fun e => by obtain ⟨_, o, ho, hc⟩ := hrow Bx e.symm; rw [hs] at ho; cases ho; cases hc)).trans hs
theorem four_new (w : World) (a b c d : Value) (t : TypeId) : ∀ j u, [a, b, c, d][j]? = some u → (w.alloc (.cells #[a, b, c, d] t)).cell? ((⟨w.heap.size, 0, none⟩ : Addr).add j) = some u := by
  intro j u hu
  rcases j with _ | _ | _ | _ | j
  · exact (show (w.alloc (.cells #[a, b, c, d] t)).cell? ⟨w.heap.size, 0, none⟩ = some u from (blk_cell (heap_alloc_new w _) 0).trans hu)
  · exact (show (w.alloc (.cells #[a, b, c, d] t)).cell? ⟨w.heap.size, 1, none⟩ = some u from (blk_cell (heap_alloc_new w _) 1).trans hu)
  · exact (show (w.alloc (.cells #[a, b, c, d] t)).cell? ⟨w.heap.size, 2, none⟩ = some u from (blk_cell (heap_alloc_new w _) 2).trans hu)
  · exact (show (w.alloc (.cells #[a, b, c, d] t)).cell? ⟨w.heap.size, 3, none⟩ = some u from (blk_cell (heap_alloc_new w _) 3).trans hu)
  · exact absurd hu (by simp)
theorem infoE : (Tryd.prog.info? 30).map (fun i => (i.zero, i.size, i.bytes)) = some (some (.agg #[(.string ⟨#[]⟩), (.int .u64 0), (.bool false), (.string ⟨#[]⟩)]), 4, 48) := by kernel_rfl
set_option maxRecDepth 100000 in
set_option maxHeartbeats 4000000 in
theorem given_in (F : Fence) (n : Nat) (h21 : F.fn 21) (h47 : F.fn 47) (h80 : F.fn 80) (hro : F.round = none) (hn : 3 ≤ n) (gk n1 c1 : Nat) (A : Option Addr) (es : List En) (q : Int) (hq0 : q ≠ 0) (w : World)
    (hn1 : es.length = n1) (hl : n1 ≤ 1073741824) (hgk : w.cell? ⟨gk, 0, none⟩ = some (.slice A n1 c1)) (hC : Kd.C kE w A n1 es) :
    CallsIn F n Tryd.prog 21 #[.pointer (some ⟨gk, 0, none⟩), .int .i64 q] w fun e W' => ∃ v, e = .returned v ∧ W'.ownsRow w.heap.size 30 4 v (givenL q es).length ((givenL q es).flatMap cE) ∧ Below w.heap.size w W' := by
  have h1 : 1 ≤ n := by omega
  have hnf : ∀ (c : Array Value) (W : World), (binOp .eql 105 (.func (.func 80) #[] c) .nilFunc).run Tryd.prog W = .ok (.bool false) W := fun c W => by rfl
  obtain ⟨i0, hi, hz0, hz1, hz2⟩ := info_parts infoE
  have dq : (q == 0) = false := by rw [beq_eq_false_iff_ne]; exact hq0
  refine callsIn_of_wp_marks Tryd.func21 rfl h21 ?_ hro
  simp only [Tryd.ntmps21, List.size_toArray, List.length_cons, List.length_nil, Nat.reduceAdd, Nat.reduceSub, Array.replicate_succ, Array.replicate_zero, List.push_toArray, List.append_toArray, List.nil_append, List.cons_append]
  gi_wp2_with (gi_at_call 47; refine (all_in F (n - 1) h47 hro _ _).mono ?_; rintro e w' ⟨rfl, rfl⟩)
  have bN := Boxed.new w 3 (.int .i64 q)
  have bO := Boxed.new (w.alloc (.cells #[.int .i64 q] 3)) 25 (.slice none 0 0)
  have bB := Boxed.new ((w.alloc (.cells #[.int .i64 q] 3)).alloc (.cells #[.slice none 0 0] 25)) 39 (.pointer (some ⟨gk, 0, none⟩))
  rw [World.size_alloc] at bO bB
  rw [World.size_alloc] at bB
  obtain ⟨W0, hW0⟩ : ∃ W0, (((w.alloc (.cells #[.int .i64 q] 3)).alloc (.cells #[.slice none 0 0] 25)).alloc (.cells #[.pointer (some ⟨gk, 0, none⟩)] 39)) = W0 := ⟨_, rfl⟩
  have bN0 : Boxed W0 w.heap.size 3 (.int .i64 q) := hW0 ▸ (bN.alloc _).alloc _
  have bO0 : Boxed W0 (w.heap.size + 1) 25 (.slice none 0 0) := hW0 ▸ bO.alloc _
  have bB0 : Boxed W0 (w.heap.size + 1 + 1) 39 (.pointer (some ⟨gk, 0, none⟩)) := hW0 ▸ bB
  have hB0 : Below w.heap.size w W0 := hW0 ▸ (((Below.refl _ w).alloc (Nat.le_refl _) _).alloc (by simp) _).alloc (by simp; omega) _
  have hs0 : W0.heap.size = w.heap.size + 1 + 1 + 1 := by rw [← hW0]; simp
  rw [hW0]
  clear bN bO bB
  refine wpIn_rangeFunc_ownH hro h1 (gf := 80) (lb := #[.pointer (some ⟨w.heap.size + 1 + 1, 0, none⟩)]) rfl h80 (enters_of Tryd.func80 (by kernel_rfl) rfl)
    (all_stops F (n - 1) h80 hro (by omega) (w.heap.size + 1 + 1) gk n1 c1 A es w W0 hn1 hgk hC hB0 bB0.cell (by omega)) belowK_t (belowK_b (by omega)) (Below.refl _ _) (fun _ => rfl)
    (fun pre W => ((∃ v, Boxed W (w.heap.size + 1) 25 v ∧ W.ownsRow w.heap.size 30 4 v pre.length (pre.flatMap cE) ∧ True) ∧ Boxed W w.heap.size 3 (.int .i64 q)) ∧ (Below w.heap.size w W ∧ (0 < q → (pre.length : Int) < q)))
    (fun c pre W => (∃ v, Boxed W (w.heap.size + 1) 25 v ∧ W.ownsRow w.heap.size 30 4 v pre.length (pre.flatMap cE) ∧ True) ∧ (Below w.heap.size w W ∧ (c = .exit 0 ∧ (pre.length : Int) = q)))
    (OwnFrom.and (OwnFrom.and (Own.from (holdsRow_own w.heap.size (w.heap.size + 1) 25 30 4 (fun pre : List En => pre.length) (fun pre => pre.flatMap cE) (fun _ _ => True)) _) (Own.from (boxed_own _ _ _) _)) (OwnFrom.and (ownFrom_below (Nat.le_refl _) (by omega)) (ownFrom_pure _ _)))
    (fun c => OwnFrom.and (Own.from (holdsRow_own w.heap.size (w.heap.size + 1) 25 30 4 (fun pre : List En => pre.length) (fun pre => pre.flatMap cE) (fun _ _ => True)) _) (OwnFrom.and (ownFrom_below (Nat.le_refl _) (by omega)) (ownFrom_pure _ _)))
    ⟨⟨⟨_, bO0, World.ownsRow_nil _ _ _ _, trivial⟩, bN0⟩, hB0, fun h => h⟩
    (fun x a' W => ∃ Bx, w.heap.size + 1 < Bx ∧ W.heap[Bx]? = some (.cells #[.string x.f0, .int .u64 x.f1, .bool x.f2, .string x.f3] 30 (0, 0)) ∧ a' = { tmps := #[.pointer (some ⟨gk, 0, none⟩), .int .i64 q, undef, .pointer (some ⟨w.heap.size, 0, none⟩), .slice none 0 0, .pointer (some ⟨w.heap.size + 1, 0, none⟩), .func (.func 80) #[] #[.pointer (some ⟨w.heap.size + 1 + 1, 0, none⟩)], .pointer (some ⟨Bx, 0, none⟩), .int .i64 q, .bool false, .pointer (some ⟨gk, 0, none⟩), .func (.func 80) #[] #[.pointer (some ⟨w.heap.size + 1 + 1, 0, none⟩)], .func (.func 80) #[] #[.pointer (some ⟨w.heap.size + 1 + 1, 0, none⟩)], .bool false, undef, undef, .func (.func 80) #[] #[.pointer (some ⟨w.heap.size + 1 + 1, 0, none⟩)], .agg #[.string x.f0, .int .u64 x.f1, .bool x.f2, .string x.f3], undef, undef, undef, undef, undef, undef, undef, undef, undef], defers := [] })
    (fun x a' _ X Y row hs hg hr => by obtain ⟨Bx, h1, h2, h3⟩ := hs; exact ⟨Bx, h1, block_own (β := Unit) _ Bx _ _ () X Y row h2 hg hr, h3⟩)
    ?assign ?body ?done ?stop
  case assign =>
    rintro l pre x W K ⟨⟨⟨v, hv, hrow, -⟩, bN1⟩, hB1, hlq⟩ hK
    unfold eV
    gi_wp2
    exact hK _ _ ((KeepsOthers.alloc _ _).from _) ((Below.refl _ W).alloc hB1.size _) ⟨⟨⟨_, hv.alloc _, hrow.alloc _, trivial⟩, bN1.alloc _⟩, hB1.alloc hB1.size _, hlq⟩ ⟨W.heap.size, hv.lt, heap_alloc_new W _, rfl⟩
  case body =>
    rintro l pre x a' W hl ⟨r, hr⟩ ⟨⟨⟨v, hv, hrow, -⟩, bN1⟩, hB1, hlq⟩ ⟨Bx, hBx, bX, rfl⟩ hlt
    have hc := hv.cell
    have cN := bN1.cell
    have x0 : W.cell? ⟨Bx, 0, none⟩ = some (.string x.f0) := by rw [blk_cell bX]; rfl
    have x1 : W.cell? ⟨Bx, 1, none⟩ = some (.int .u64 x.f1) := by rw [blk_cell bX]; rfl
    have x2 : W.cell? ⟨Bx, 2, none⟩ = some (.bool x.f2) := by rw [blk_cell bX]; rfl
    have x3 : W.cell? ⟨Bx, 3, none⟩ = some (.string x.f3) := by rw [blk_cell bX]; rfl
    have HC4 : ∀ j u, (cE x)[j]? = some u → (W.alloc (.cells #[.string x.f0, .int .u64 x.f1, .bool x.f2, .string x.f3] 30)).cell? ((⟨W.heap.size, 0, none⟩ : Addr).add j) = some u := four_new W _ _ _ _ _
    have HO4 : ∀ u ∈ cE x, u.oneCell' = true := by unfold cE; simp [Value.oneCell']
    have hFM : (pre ++ [x]).flatMap cE = pre.flatMap cE ++ cE x := by rw [List.flatMap_append, List.flatMap_cons, List.flatMap_nil, List.append_nil]
    have hPL : (pre ++ [x]).length = pre.length + 1 := by rw [List.length_append]; rfl
    obtain ⟨k, hk⟩ : ∃ k, pre.length = k := ⟨_, rfl⟩
    rw [hk] at hrow hlt hlq
    have hkz : Aside0 ((pre ++ [x]).length = k + 1) := ⟨by rw [hPL, hk]⟩
    have HL9 : Aside0 (0 < q → (k : Int) < q) := ⟨hlq⟩
    have HPK := Aside0.mk hk
    have HFM := Aside0.mk hFM
    clear hlq hk hFM hPL
    by_cases hq : (k : Int) + 1 = q
    · have z1 : ((k : Int) + 1 == q) = true := beq_iff_eq.mpr hq
      have HQ := Aside0.mk hq
      clear hq
      gi_wp2_with (gi_at_builtin; go_must (refine wpListIn_append_own _ rfl _ _ 25 rfl w.heap.size 30 i0 _ 4 48 Tryd.underlying25 hi hz0 hz1 hz2 rfl (by decide) _ _ _ rfl (hrow.alloc _) ⟨W.heap.size, 0, none⟩ 1 1 (cE x) rfl rfl HC4 HO4 (show k + 1 ≤ 9223372036854775807 by omega) (by omega) (by have := hB1.size; simp; omega) ?_); intro v' w1 hown' hgrow _; obtain ⟨g', cap', rfl⟩ := ownsRow_succ hown'; (have bN2 := ((bN1.alloc (.cells #[.string x.f0, .int .u64 x.f1, .bool x.f2, .string x.f3] 30)).kept hgrow (bN1.not_row (by decide) hrow)).other (B' := w.heap.size + 1) (by omega) (.slice (some ⟨g', 0, none⟩) (k + 1) cap')); obtain ⟨hv1, hv2, hr2, hk2, hb2⟩ := hv.appended (by decide) hrow hB1.size (by omega) hown' hgrow; have hc1 := hv1.cell; have hf1 := hv1.frozen; have hc2 := hv2.cell; have hcN2 := bN2.cell)
      exact ⟨hk2.from _, ⟨_, hv2, by rw [hkz.out, HFM.out]; exact hr2, trivial⟩, hB1.trans hb2, rfl, by rw [hkz.out]; have := HQ.out; omega⟩
    · have z1 : ((k : Int) + 1 == q) = false := beq_eq_false_iff_ne.mpr hq
      have HQ := Aside0.mk hq
      clear hq
      gi_wp2_with (gi_at_builtin; go_must (refine wpListIn_append_own _ rfl _ _ 25 rfl w.heap.size 30 i0 _ 4 48 Tryd.underlying25 hi hz0 hz1 hz2 rfl (by decide) _ _ _ rfl (hrow.alloc _) ⟨W.heap.size, 0, none⟩ 1 1 (cE x) rfl rfl HC4 HO4 (show k + 1 ≤ 9223372036854775807 by omega) (by omega) (by have := hB1.size; simp; omega) ?_); intro v' w1 hown' hgrow _; obtain ⟨g', cap', rfl⟩ := ownsRow_succ hown'; (have bN2 := ((bN1.alloc (.cells #[.string x.f0, .int .u64 x.f1, .bool x.f2, .string x.f3] 30)).kept hgrow (bN1.not_row (by decide) hrow)).other (B' := w.heap.size + 1) (by omega) (.slice (some ⟨g', 0, none⟩) (k + 1) cap')); obtain ⟨hv1, hv2, hr2, hk2, hb2⟩ := hv.appended (by decide) hrow hB1.size (by omega) hown' hgrow; have hc1 := hv1.cell; have hf1 := hv1.frozen; have hc2 := hv2.cell; have hcN2 := bN2.cell)
      exact ⟨hk2.from _, hb2, ⟨⟨_, hv2, by rw [hkz.out, HFM.out]; exact hr2, trivial⟩, bN2⟩, hB1.trans hb2, fun h => by rw [hkz.out]; have z1 := HQ.out; have z2 := HL9.out h; omega⟩
  case done =>
    rintro D ys W hD rfl ⟨⟨⟨v, hv, hrow, -⟩, bN1⟩, hB1, hlq⟩ hK
    have hc := hv.cell
    gi_wp2
    refine ⟨by simp, .inl ⟨_, _, rfl, run_takeDeferred hK, ?_⟩⟩
    have hg : givenL q ys = ys := by
      unfold givenL
      rw [if_neg hq0]
      by_cases h : 0 < q
      · rw [if_pos h, List.take_of_length_le (by have := hlq h; omega)]
      · rw [if_neg h]
    rw [hg]
    exact ⟨_, results_tmp rfl _ _ _, v, rfl, ownsRow_putObj hrow _ hK rfl, hB1.trans (belowK_b (w := w) (Nat.le_refl _) W D _ _ (by omega) hK rfl rfl)⟩
  case stop =>
    rintro D c pre W hD hpre ⟨⟨v, hv, hrow, -⟩, hB1, rfl, hpq⟩ hK
    have hc := hv.cell
    gi_wp2
    refine ⟨by simp, .inl ⟨_, _, rfl, run_takeDeferred hK, ?_⟩⟩
    have hg : givenL q es = pre := by
      unfold givenL
      rw [if_neg hq0, if_pos (by omega)]
      obtain ⟨t, rfl⟩ := hpre
      rw [← hpq, Int.toNat_natCast, List.take_left']
      rfl
    rw [hg]
    exact ⟨_, results_tmp rfl _ _ _, v, rfl, ownsRow_putObj hrow _ hK rfl, hB1.trans (belowK_b (w := w) (Nat.le_refl _) W D _ _ (by omega) hK rfl rfl)⟩
end Go.Proofs.YtaonjmkfbfhanaaDoor.Bk
namespace Go.Proofs.YtaonjmkfbfhanaaDoor.Bk
open Go.RowKit Go.Shelf Go.Proofs.YtaonjmkfbfhanaaDoorW.PrintWords Go.Proofs.YtaonjmkfbfhanaaDoor.Own Go.Proofs.YtaonjmkfbfhanaaDoor.G Go.Proofs.YtaonjmkfbfhanaaDoor.Wk Go.Proofs.YtaonjmkfbfhanaaDoor.QBo
set_option linter.unusedVariables false
theorem reps_cE (w : World) (base : Nat) (ok : Nat → Prop) (es : List En) : Reps (kE.M w base ok) 4 es (es.flatMap cE) := by
  induction es with
  | nil => exact Reps.none _ _
  | cons x es ih =>
    refine ⟨?_, fun j p hp => ?_⟩
    · rw [List.flatMap_cons, List.length_append, ih.1, List.length_cons, Nat.add_mul]
      show 4 + _ = _
      omega
    · cases j with
      | zero =>
        rw [List.getElem?_cons_zero, Option.some.injEq] at hp
        subst hp
        exact k30_mkM w base ok x
      | succ j =>
        rw [List.getElem?_cons_succ] at hp
        have h := ih.2 j p hp
        rw [List.flatMap_cons, show (j + 1) * 4 = 4 + j * 4 by omega, ← List.drop_drop]
        exact h
theorem row_R {w : World} {base : Nat} {v : Value} {es : List En} (h : w.ownsRow base 30 4 v es.length (es.flatMap cE)) : kE.R 30 w base (fun _ => True) v es :=
  ⟨fun _ _ => trivial, _, h, reps_cE _ _ _ _⟩
def GivenPost (w : World) (es : List En) (e : Ending) (W' : World) : Prop := ∃ v, e = .returned v ∧ kE.R 30 W' w.heap.size (fun _ => True) v es ∧ Below w.heap.size w W'
theorem given_calls (gk n1 c1 : Nat) (A : Option Addr) (es : List En) (q : Int) (w : World) (hl : n1 ≤ 1073741824) (hgk : w.cell? ⟨gk, 0, none⟩ = some (.slice A n1 c1)) (hC : Kd.C kE w A n1 es) :
    Calls Tryd.prog 21 #[.pointer (some ⟨gk, 0, none⟩), .int .i64 q] w (GivenPost w (givenL q es)) := by
  by_cases hq : q = 0
  · subst hq
    rw [show givenL 0 es = [] from if_pos rfl]
    go_enter Tryd.func21, Tryd.ntmps21
    go_wp2_with fail
    go_ret
    exact ⟨_, rfl, Kd.R_nil _ _ _ _ _, ((Below.refl _ w).alloc (Nat.le_refl _) _).alloc (by simp) _⟩
  · refine ((callsIn_wide (n := 3)).1 (given_in _ 3 trivial trivial trivial rfl (Nat.le_refl _) gk n1 c1 A es q hq w hC.1 hl hgk hC)).mono ?_
    rintro e W' ⟨v, rfl, hr, hb⟩
    exact ⟨v, rfl, row_R hr, hb⟩
end Go.Proofs.YtaonjmkfbfhanaaDoor.Bk
namespace Go.Proofs.YtaonjmkfbfhanaaDoor.Bk
open Go.RowKit Go.Proofs.YtaonjmkfbfhanaaDoorW.PrintWords Go.Proofs.YtaonjmkfbfhanaaDoor.Own Go.Proofs.YtaonjmkfbfhanaaDoor.G Go.Proofs.YtaonjmkfbfhanaaDoor.Wk Go.Proofs.YtaonjmkfbfhanaaDoor.QBo
set_option linter.unusedVariables false
theorem givenAll (L : List En) : givenL (-1) L = L := by unfold givenL; rw [if_neg (by decide), if_neg (by decide)]
theorem made_good {r : Int} : ∀ (l : List En) (m : Mk) (k : Nat), GoodM r m k → (∀ e ∈ l, EnW e) → GoodM r (madeM m l).2 (k + (madeM m l).1.length) := by
  intro l
  induction l with
  | nil => intro m k h _; exact h
  | cons e l ih =>
    intro m k h hw
    unfold madeM
    by_cases h0 : (addM m e).1 = 0
    · rw [if_pos h0]
      have z := ih (addM m e).2 (k + 1) (goodM_step h h0 (hw e (by simp))) (fun x hx => hw x (by simp [hx]))
      show GoodM r (madeM (addM m e).2 l).2 (k + (_ :: (madeM (addM m e).2 l).1).length)
      rw [List.length_cons, show k + ((madeM (addM m e).2 l).1.length + 1) = k + 1 + (madeM (addM m e).2 l).1.length by omega]
      exact z
    · rw [if_neg h0, addM_no h0]
      exact ih m k h (fun x hx => hw x (by simp [hx]))
theorem bytesM_small {r : Int} {m : Mk} {k : Nat} (h : GoodM r m k) : (bytesM m).length ≤ 704 * k + 8 := by
  rw [bytesM_len]
  have h1 := h.data
  have h2 := h.places
  omega
theorem made_small (r : Int) (l : List En) (hw : ∀ e ∈ l, EnW e) : GoodM r (madeM (newM r) l).2 (madeM (newM r) l).1.length := by
  have z := made_good l (newM r) 0 (goodM_new r) hw
  rwa [Nat.zero_add] at z
end Go.Proofs.YtaonjmkfbfhanaaDoor.Bk
namespace Go.Proofs.YtaonjmkfbfhanaaDoor.BlockAgain
open Go.RowKit Go.Proofs.YtaonjmkfbfhanaaDoorW.PrintWords Go.Proofs.YtaonjmkfbfhanaaDoor.Own Go.Proofs.YtaonjmkfbfhanaaDoor.Wk Go.Proofs.YtaonjmkfbfhanaaDoor.QBo
set_option linter.unusedVariables false
end Go.Proofs.YtaonjmkfbfhanaaDoor.BlockAgain
namespace Go.Proofs.YtaonjmkfbfhanaaDoor.QBo
open Go.Proofs.YtaonjmkfbfhanaaDoor.Own
open Go.RowKit Go.Proofs.YtaonjmkfbfhanaaDoorW.PrintWords Go.Proofs.YtaonjmkfbfhanaaDoorW.PrintLast Go.Proofs.YtaonjmkfbfhanaaDoorW.PrintMore
attribute [local go_sem] max2_int min2_int max_two min_two max_three min_three max_four min_four   -- for this text's walks alone
set_option linter.unusedVariables false
set_option linter.unusedSimpArgs false
mutual
def screeroom_Count_Entries.l0 : Nat → List (S30) → Int → Int → Option (Int)
  | 0, _, _, _ => none
  | k + 1, x1, x4, x1000 => if x4 < (x1.length : Int) then ((screeroom_Count_Ok.f x1000).bind fun bt405 => (screeroom_Count_Entries.j1 k x1 x4 bt405.1 bt405.2)) else (screeroom_Count_Entries.j1 k x1 x4 false x1000)
def screeroom_Count_Entries.j1 : Nat → List (S30) → Int → Bool → Int → Option (Int)
  | 0, _, _, _, _ => none
  | k + 1, x1, x4, x12, x1000 => if x12 = true then (if 0 ≤ x4 then (if x4 < (x1.length : Int) then ((screeroom_Count_Text.f x1000 ((rd_T30 x1 x4).f0)).bind fun t408 => ((screeroom_Count_Add.f t408 (((rd_T30 x1 x4).f3).size : Int)).bind fun bt410 => (screeroom_Count_Entries.l0 k x1 (wrap64 (x4 + 1)) bt410.2))) else (none)) else (none)) else (some x1000)
end
def screeroom_Count_Entries.f (k : Nat) (s0_0 : Int) (l1 : List (S30)) : Option (Int) := screeroom_Count_Entries.l0 k l1 0 s0_0
set_option maxHeartbeats 8000000 in
set_option maxRecDepth 100000 in
theorem screeroom_Count_Entries.calls (k : Nat) (g : Nat) (s0_0 : Int) (A1 : Option Addr) (c1 : Nat) (l1 : List (S30)) (r : Int) (w0 w : World) (hI : IsS91 w0 w g s0_0) (hB : Below w0.heap.size w0 w) (hr1 : ∀ W_, KeepBut w W_ g none → Kd.C k30 W_ A1 l1.length l1) (hc1 : l1.length ≤ c1) (h : screeroom_Count_Entries.f k s0_0 l1 = some r) :
    Calls Tryd.prog 31 #[.pointer (some ⟨g, 0, none⟩), .slice A1 l1.length c1] w fun e w' => e = .returned (.tuple #[]) ∧ IsS91 w0 w' g r ∧ Below w0.heap.size w0 w' ∧ KeepBut w w' g none := by
  have HR1 := Aside0.mk hr1
  have HC1 := Aside0.mk hc1
  clear hr1 hc1
  have HI0 := Aside0.mk hI
  have HK := Aside0.mk (KeepBut.refl w g none)
  have HL := Aside0.mk hB.size
  clear hI
  have HW0 := Aside0.mk hB.size
  have HB := Aside0.mk hB
  clear hB
  have H : (screeroom_Count_Entries.l0 k l1 0 s0_0) = some r := h
  clear h
  have H' := Aside0.mk H
  clear H
  go_enter Tryd.func31, Tryd.ntmps31
  go_wp2
  go_loopg [4] k (fun kq v4 w' => ∃ (x4_1 : Int) (x1000_1 : Int), v4 = .int .i64 x4_1 ∧ Aside0 (screeroom_Count_Entries.l0 kq l1 x4_1 x1000_1 = some r) ∧ Aside0 (kq ≤ k) ∧ Aside0 (IsS91 w0 w' g x1000_1) ∧ Aside0 (KeepBut w w' g none) ∧ Aside0 (Below w0.heap.size w0 w'))
  case atStart => exact ⟨(0), (s0_0), (by first | rfl | (simp; done) | (simp [*]; done)), H', ⟨Nat.le_refl _⟩, ⟨by repeat (first | (with_reducible first | exact HI0.out | apply IsS91.alloc | apply IsS91.drewN | apply IsS91.drew | apply IsS91.set_0) | exact HI0.out)⟩, ⟨by repeat (first | (with_reducible first | exact HK.out | apply KeepBut.set_ | apply keep_drewN | apply keep_drew | apply keep_alloc) | exact HK.out)⟩, ⟨by repeat (first | (with_reducible first | exact HB.out | apply below_alloc | apply pw_below_drewN | apply below_drew1 | refine below_set ?_ (IsS91.ge HI0.out)) | exact HB.out)⟩⟩
  case round =>
    clear H'
    try clear c1
    try clear p2
    obtain ⟨x4_1, x1000_1, rfl, HA, HK1, HI0, HK, HB⟩ := hrel
    cases gk with
    | zero => exact absurd HA.out (by simp [screeroom_Count_Entries.l0])
    | succ k1 =>
      have H := HA.out
      clear HA
      simp only [screeroom_Count_Entries.l0] at H
      have HC3 := Aside0.mk H
      clear H
      go_upto_region 1 with (fail)
      (try (obtain ⟨tb1_, hTB1_⟩ : ∃ tb_ : Bool, (decide (x4_1 < (l1.length : Int))) = tb_ := ⟨_, rfl⟩; simp only [hTB1_]; have TB1_ := Aside0.mk hTB1_; clear hTB1_))
      go_cut [12] (fun v12 wc => ∃ (kq : Nat) (x12_2 : Bool) (x1000_2 : Int), v12 = .bool x12_2 ∧ Aside0 (screeroom_Count_Entries.j1 kq l1 x4_1 x12_2 x1000_2 = some r) ∧ Aside0 (kq ≤ k1) ∧ Aside0 (IsS91 w0 wc g x1000_2) ∧ Aside0 (KeepBut w wc g none) ∧ Aside0 (Below w0.heap.size w0 wc))
      case first =>
        have H := HC3.out
        clear HC3
        by_cases c4 : x4_1 < (l1.length : Int)
        · rw [if_pos c4] at H
          have c4b0 : decide (x4_1 < (l1.length : Int)) = true := decide_eq_true c4
          (try (obtain rfl := TB1_.out.symm.trans c4b0))
          clear c4
          (first | rw [c4b0] | (simp only [i64_w, i32_w]; rw [c4b0]) | skip)
          replace H := Option.bind_eq_some_iff.mp H
          obtain ⟨⟨t405, t406⟩, A50, H⟩ := H
          replace H : (screeroom_Count_Entries.j1 k1 l1 x4_1 t405 t406) = some r := H
          have A5 := Aside0.mk A50
          clear A50
          have H' := Aside0.mk H
          clear H
          go_wp2_with (first | (go_at_call 15; (with_reducible refine (screeroom_Count_Ok.calls g x1000_1 t405 t406 w0 _ ?side1 ?side2 A5.out).mono ?_); (case side1 => repeat (first | (with_reducible first | exact HI0.out | apply IsS91.alloc | apply IsS91.drewN | apply IsS91.drew | apply IsS91.set_0) | exact HI0.out)); (case side2 => repeat (first | (with_reducible first | exact HB.out | apply below_alloc | apply pw_below_drewN | apply below_drew1 | refine below_set ?_ (IsS91.ge HI0.out)) | exact HB.out)); rintro e w6 ⟨rfl, hi, hb, hk⟩; have n0_ := Aside0.mk (KeepBut.trans (by repeat (first | (with_reducible first | exact HK.out | apply KeepBut.set_ | apply keep_drewN | apply keep_drew | apply keep_alloc) | exact HK.out)) hk (.inl rfl)); have n1_ := Aside0.mk (hb); have n2_ := Aside0.mk (hi); clear HK; clear HB; clear HI0; have HK := n0_; have HB := n1_; have HI0 := n2_; clear n0_ n1_ n2_; (try clear hb); (try clear hb2); (try clear hk); (try clear hi)))
          go_meet
          case rel => exact ⟨_, (t405), (t406), (by first | rfl | (simp; done) | (simp [*]; done)), H', ⟨by have := HK1.out; first | omega | exact Nat.le_refl _⟩, ⟨by repeat (first | (with_reducible first | exact HI0.out | apply IsS91.alloc | apply IsS91.drewN | apply IsS91.drew | apply IsS91.set_0) | exact HI0.out)⟩, ⟨by repeat (first | (with_reducible first | exact HK.out | apply KeepBut.set_ | apply keep_drewN | apply keep_drew | apply keep_alloc) | exact HK.out)⟩, ⟨by repeat (first | (with_reducible first | exact HB.out | apply below_alloc | apply pw_below_drewN | apply below_drew1 | refine below_set ?_ (IsS91.ge HI0.out)) | exact HB.out)⟩⟩
        · rw [if_neg c4] at H
          have c4b0 : decide (x4_1 < (l1.length : Int)) = false := decide_eq_false c4
          (try (obtain rfl := TB1_.out.symm.trans c4b0))
          clear c4
          (first | rw [c4b0] | (simp only [i64_w, i32_w]; rw [c4b0]) | skip)
          have H' := Aside0.mk H
          clear H
          go_wp2
          go_meet
          case rel => exact ⟨_, (false), (x1000_1), (by first | rfl | (simp; done) | (simp [*]; done)), H', ⟨by have := HK1.out; first | omega | exact Nat.le_refl _⟩, ⟨by repeat (first | (with_reducible first | exact HI0.out | apply IsS91.alloc | apply IsS91.drewN | apply IsS91.drew | apply IsS91.set_0) | exact HI0.out)⟩, ⟨by repeat (first | (with_reducible first | exact HK.out | apply KeepBut.set_ | apply keep_drewN | apply keep_drew | apply keep_alloc) | exact HK.out)⟩, ⟨by repeat (first | (with_reducible first | exact HB.out | apply below_alloc | apply pw_below_drewN | apply below_drew1 | refine below_set ?_ (IsS91.ge HI0.out)) | exact HB.out)⟩⟩
      case rest =>
        clear HC3
        try clear c1
        try clear p2
        try clear c3
        try clear c4
        try clear c4b0
        try clear p2
        obtain ⟨kq, x12_2, x1000_2, rfl, HA, HJ2, HI0, HK, HB⟩ := hcut
        cases kq with
        | zero => exact absurd HA.out (by simp [screeroom_Count_Entries.j1])
        | succ kj2 =>
          have H := HA.out
          clear HA
          simp only [screeroom_Count_Entries.j1] at H
          by_cases c7 : x12_2 = true
          · subst c7
            have H1 : (if 0 ≤ x4_1 then (if x4_1 < (l1.length : Int) then ((screeroom_Count_Text.f x1000_2 ((rd_T30 l1 x4_1).f0)).bind fun t408 => ((screeroom_Count_Add.f t408 (((rd_T30 l1 x4_1).f3).size : Int)).bind fun bt410 => (screeroom_Count_Entries.l0 kj2 l1 (wrap64 (x4_1 + 1)) bt410.2))) else (none)) else (none)) = some r := by rw [if_pos rfl] at H; exact H
            clear H
            have H := H1
            clear H1
            by_cases c8 : 0 ≤ x4_1
            · rw [if_pos c8] at H
              have c8b0 : decide (0 ≤ x4_1) = true := decide_eq_true c8
              clear c8
              by_cases c9 : x4_1 < (l1.length : Int)
              · rw [if_pos c9] at H
                have c9b0 : decide (x4_1 < (l1.length : Int)) = true := decide_eq_true c9
                clear c9
                replace H := Option.bind_eq_some_iff.mp H
                obtain ⟨t408, A100, H⟩ := H
                replace H : ((screeroom_Count_Add.f t408 (((rd_T30 l1 x4_1).f3).size : Int)).bind fun bt410 => (screeroom_Count_Entries.l0 kj2 l1 (wrap64 (x4_1 + 1)) bt410.2)) = some r := H
                have A10 := Aside0.mk A100
                clear A100
                replace H := Option.bind_eq_some_iff.mp H
                obtain ⟨⟨t410, t411⟩, A110, H⟩ := H
                replace H : (screeroom_Count_Entries.l0 kj2 l1 (wrap64 (x4_1 + 1)) t411) = some r := H
                have A11 := Aside0.mk A110
                clear A110
                have H' := Aside0.mk H
                clear H
                have p407 : 0 ≤ (x4_1 : Int) := of_decide_eq_true (by first | (with_reducible assumption) | assumption)
                have q407 : x4_1 < (l1.length : Int) := of_decide_eq_true (by first | (with_reducible assumption) | assumption)
                obtain ⟨ad407, e407, hx407_0, hx407_1, hx407_2, hx407_3⟩ := at_T30 (Kd.C_foot_now HR1.out HK.out) x4_1 p407 q407
                cases e407
                replace p407 := eq_true p407
                replace q407 := eq_true q407
                go_wp2_with (first | ((with_reducible refine gate_callee (f := 64) rfl ?_); refine goesL_ (some 21) rfl rfl Tryd.func64 (by kernel_rfl) rfl #[.pointer (some ⟨g, 0, none⟩), .string ((rd_T30 l1 x4_1).f0)] rfl (by (try simp only [List.map_toArray, List.map_cons, List.map_nil]); first | done | rfl | (simp only [List.length_drop, List.length_take]; rfl)) ?_; (with_reducible refine (screeroom_Count_Text.calls g x1000_2 ((rd_T30 l1 x4_1).f0) t408 w0 _ ?side1 ?side2 A10.out).mono ?_); (case side1 => repeat (first | (with_reducible first | exact HI0.out | apply IsS91.alloc | apply IsS91.drewN | apply IsS91.drew | apply IsS91.set_0) | exact HI0.out)); (case side2 => repeat (first | (with_reducible first | exact HB.out | apply below_alloc | apply pw_below_drewN | apply below_drew1 | refine below_set ?_ (IsS91.ge HI0.out)) | exact HB.out)); rintro e w12 ⟨rfl, hi, hb, hk⟩; refine ⟨_, rfl, ?_⟩; have n0_ := Aside0.mk (KeepBut.trans (by repeat (first | (with_reducible first | exact HK.out | apply KeepBut.set_ | apply keep_drewN | apply keep_drew | apply keep_alloc) | exact HK.out)) hk (.inl rfl)); have n1_ := Aside0.mk (hb); have n2_ := Aside0.mk (hi); clear HK; clear HB; clear HI0; have HK := n0_; have HB := n1_; have HI0 := n2_; clear n0_ n1_ n2_; (try clear hb); (try clear hb2); (try clear hk); (try clear hi); have p409 : 0 ≤ (x4_1 : Int) := of_decide_eq_true (by first | (with_reducible assumption) | assumption); have q409 : x4_1 < (l1.length : Int) := of_decide_eq_true (by first | (with_reducible assumption) | assumption); obtain ⟨ad409, e409, hx409_0, hx409_1, hx409_2, hx409_3⟩ := at_T30 (Kd.C_foot_now HR1.out HK.out) x4_1 p409 q409; obtain rfl : ad407 = ad409 := (by injection e409); replace p409 := eq_true p409; replace q409 := eq_true q409) | ((with_reducible refine gate_callee (f := 38) rfl ?_); refine goesL_ (some 29) rfl rfl Tryd.func38 (by kernel_rfl) rfl #[.pointer (some ⟨g, 0, none⟩), .int .i64 (((rd_T30 l1 x4_1).f3).size : Int)] rfl (by (try simp only [List.map_toArray, List.map_cons, List.map_nil]); first | done | rfl | (simp only [List.length_drop, List.length_take]; rfl)) ?_; (with_reducible refine (screeroom_Count_Add.calls g t408 (((rd_T30 l1 x4_1).f3).size : Int) t410 t411 w0 _ ?side1 ?side2 A11.out).mono ?_); (case side1 => repeat (first | (with_reducible first | exact HI0.out | apply IsS91.alloc | apply IsS91.drewN | apply IsS91.drew | apply IsS91.set_0) | exact HI0.out)); (case side2 => repeat (first | (with_reducible first | exact HB.out | apply below_alloc | apply pw_below_drewN | apply below_drew1 | refine below_set ?_ (IsS91.ge HI0.out)) | exact HB.out)); rintro e w13 ⟨rfl, hi, hb, hk⟩; refine ⟨_, rfl, ?_⟩; have n0_ := Aside0.mk (KeepBut.trans (by repeat (first | (with_reducible first | exact HK.out | apply KeepBut.set_ | apply keep_drewN | apply keep_drew | apply keep_alloc) | exact HK.out)) hk (.inl rfl)); have n1_ := Aside0.mk (hb); have n2_ := Aside0.mk (hi); clear HK; clear HB; clear HI0; have HK := n0_; have HB := n1_; have HI0 := n2_; clear n0_ n1_ n2_; (try clear hb); (try clear hb2); (try clear hk); (try clear hi)))
                go_roundg kj2
                case measure => have := HK1.out; have := HJ2.out; omega
                case rel => exact ⟨(wrap64 (x4_1 + 1)), (t411), (by first | rfl | (simp; done) | (simp [*]; done)), H', ⟨by have := HK1.out; have := HJ2.out; omega⟩, ⟨by repeat (first | (with_reducible first | exact HI0.out | apply IsS91.alloc | apply IsS91.drewN | apply IsS91.drew | apply IsS91.set_0) | exact HI0.out)⟩, ⟨by repeat (first | (with_reducible first | exact HK.out | apply KeepBut.set_ | apply keep_drewN | apply keep_drew | apply keep_alloc) | exact HK.out)⟩, ⟨by repeat (first | (with_reducible first | exact HB.out | apply below_alloc | apply pw_below_drewN | apply below_drew1 | refine below_set ?_ (IsS91.ge HI0.out)) | exact HB.out)⟩⟩
              · rw [if_neg c9] at H
                exact absurd H (by simp)
            · rw [if_neg c8] at H
              exact absurd H (by simp)
          · replace c7 := Bool.eq_false_iff.mpr c7
            subst c7
            have H1 : (some x1000_2) = some r := by rw [if_neg (show ¬ (false = true) by decide)] at H; exact H
            clear H
            have H := H1
            clear H1
            obtain rfl := Option.some.inj H
            go_wp2
            first | go_end0 | ((try simp only [Exit.inBlock, Exit.then]); refine bodyPost_ret (results_none rfl _ _ _) rfl ?_)
            exact ⟨by first | rfl | (simp [errW_none, errW_some] <;> rfl) | (simp [*, errW_none, errW_some] <;> rfl), by repeat (first | (with_reducible first | exact HI0.out | apply IsS91.alloc | apply IsS91.drewN | apply IsS91.drew | apply IsS91.set_0) | exact HI0.out), by repeat (first | (with_reducible first | exact HB.out | apply below_alloc | apply pw_below_drewN | apply below_drew1 | refine below_set ?_ (IsS91.ge HI0.out)) | exact HB.out), by repeat (first | (with_reducible first | exact HK.out | apply KeepBut.set_ | apply keep_drewN | apply keep_drew | apply keep_alloc) | exact HK.out)⟩
def screelaw9_small.f (k : Nat) (l0 : List (S30)) : Option (Bool) := (screeroom_Many.f 32768).bind fun t412 => ((screeroom_Count_Entries.f k t412 l0).bind fun t414 => (if (l0.length : Int) ≤ 200 then ((screeroom_Count_Ok.f t414).bind fun bt415 => (some bt415.1)) else (some false)))
set_option maxHeartbeats 8000000 in
set_option maxRecDepth 100000 in
theorem screelaw9_small.calls (k : Nat) (A0 : Option Addr) (c0 : Nat) (l0 : List (S30)) (r : Bool) (w : World) (hr0 : Kd.C k30 w A0 l0.length l0) (hc0 : l0.length ≤ c0) (h : screelaw9_small.f k l0 = some r) :
    Calls Tryd.prog 10 #[.slice A0 l0.length c0] w fun e w' => e = .returned (.bool r) ∧ Below w.heap.size w w' := by
  have HR0 := Aside0.mk hr0
  have HC0 := Aside0.mk hc0
  clear hr0 hc0
  have HB := Aside0.mk (Below.refl w.heap.size w)
  have H : ((screeroom_Many.f 32768).bind fun t412 => ((screeroom_Count_Entries.f k t412 l0).bind fun t414 => (if (l0.length : Int) ≤ 200 then ((screeroom_Count_Ok.f t414).bind fun bt415 => (some bt415.1)) else (some false)))) = some r := h
  clear h
  replace H := Option.bind_eq_some_iff.mp H
  obtain ⟨t412, A20, H⟩ := H
  replace H : ((screeroom_Count_Entries.f k t412 l0).bind fun t414 => (if (l0.length : Int) ≤ 200 then ((screeroom_Count_Ok.f t414).bind fun bt415 => (some bt415.1)) else (some false))) = some r := H
  have A2 := Aside0.mk A20
  clear A20
  replace H := Option.bind_eq_some_iff.mp H
  obtain ⟨t414, A30, H⟩ := H
  replace H : (if (l0.length : Int) ≤ 200 then ((screeroom_Count_Ok.f t414).bind fun bt415 => (some bt415.1)) else (some false)) = some r := H
  have A3 := Aside0.mk A30
  clear A30
  by_cases c4 : (l0.length : Int) ≤ 200
  · rw [if_pos c4] at H
    have c4b0 : decide ((l0.length : Int) ≤ 200) = true := decide_eq_true c4
    have c4b1 : decide (l0.length ≤ 200) = true := decide_eq_true (by omega)
    clear c4
    replace H := Option.bind_eq_some_iff.mp H
    obtain ⟨⟨t415, t416⟩, A50, H⟩ := H
    replace H : (some t415) = some r := H
    have A5 := Aside0.mk A50
    clear A50
    obtain rfl := Option.some.inj H
    go_enter Tryd.func10, Tryd.ntmps10
    go_wp2_with (first | ((with_reducible refine gate_callee (f := 13) rfl ?_); refine goesL_ (some 4) rfl rfl Tryd.func13 (by kernel_rfl) rfl #[.int .i64 32768] rfl (by (try simp only [List.map_toArray, List.map_cons, List.map_nil]); first | done | rfl | (simp only [List.length_drop, List.length_take]; rfl)) ?_; (with_reducible refine (screeroom_Many.calls 32768 t412 w _ ?side1 A2.out).mono ?_); (case side1 => repeat (first | (with_reducible first | exact HB.out | apply below_alloc | apply pw_below_drewN | apply below_drew1) | exact HB.out)); rintro e w6 ⟨g413, rfl, hi, hb, hb2⟩; refine ⟨_, rfl, ?_⟩; have n0_ := Aside0.mk (hb); have n1_ := Aside0.mk (hi); clear HB; have HB := n0_; have HI413 := n1_; clear n0_ n1_; (try clear hb); (try clear hb2); (try clear hk); (try clear hi)) | ((with_reducible refine gate_callee (f := 31) rfl ?_); refine goesL_ (some 7) rfl rfl Tryd.func31 (by kernel_rfl) rfl #[.pointer (some ⟨g413, 0, none⟩), .slice A0 l0.length c0] rfl (by (try simp only [List.map_toArray, List.map_cons, List.map_nil]); first | done | rfl | (simp only [List.length_drop, List.length_take]; rfl)) ?_; (with_reducible refine (screeroom_Count_Entries.calls k g413 t412 _ _ l0 t414 w _ ?side1 ?side2 ?side3 ?side4 A3.out).mono ?_); (case side1 => repeat (first | (with_reducible first | exact HI413.out | apply IsS91.alloc | apply IsS91.drewN | apply IsS91.drew | apply IsS91.set_0) | exact HI413.out)); (case side2 => repeat (first | (with_reducible first | exact HB.out | apply below_alloc | apply pw_below_drewN | apply below_drew1 | refine below_set ?_ (IsS91.ge HI413.out)) | exact HB.out)); (case side3 => exact Kd.C_foot_came k30_heap HR0.out (by repeat (first | (with_reducible first | exact HB.out | apply below_alloc | apply pw_below_drewN | apply below_drew1 | refine below_set ?_ (IsS91.ge HI413.out)) | exact HB.out)) (IsS91.ge HI413.out)); (case side4 => exact HC0.out); rintro e w7 ⟨rfl, hi, hb, hk⟩; refine ⟨_, rfl, ?_⟩; have n0_ := Aside0.mk (hb); have n1_ := Aside0.mk (hi); clear HB; clear HI413; have HB := n0_; have HI413 := n1_; clear n0_ n1_; (try clear hb); (try clear hb2); (try clear hk); (try clear hi)) | (go_at_call 15; (with_reducible refine (screeroom_Count_Ok.calls g413 t414 t415 t416 w _ ?side1 ?side2 A5.out).mono ?_); (case side1 => repeat (first | (with_reducible first | exact HI413.out | apply IsS91.alloc | apply IsS91.drewN | apply IsS91.drew | apply IsS91.set_0) | exact HI413.out)); (case side2 => repeat (first | (with_reducible first | exact HB.out | apply below_alloc | apply pw_below_drewN | apply below_drew1 | refine below_set ?_ (IsS91.ge HI413.out)) | exact HB.out)); rintro e w8 ⟨rfl, hi, hb, hk⟩; have n0_ := Aside0.mk (hb); have n1_ := Aside0.mk (hi); clear HB; clear HI413; have HB := n0_; have HI413 := n1_; clear n0_ n1_; (try clear hb); (try clear hb2); (try clear hk); (try clear hi)))
    go_ret
    exact ⟨by first | rfl | (simp [errW_none, errW_some] <;> rfl) | (simp [*, errW_none, errW_some] <;> rfl), by repeat (first | (with_reducible first | exact HB.out | apply below_alloc | apply pw_below_drewN | apply below_drew1 | refine below_set ?_ (IsS91.ge HI413.out)) | exact HB.out)⟩
  · rw [if_neg c4] at H
    have c4b0 : decide ((l0.length : Int) ≤ 200) = false := decide_eq_false c4
    have c4b1 : decide (l0.length ≤ 200) = false := decide_eq_false (by omega)
    clear c4
    obtain rfl := Option.some.inj H
    go_enter Tryd.func10, Tryd.ntmps10
    go_wp2_with (first | ((with_reducible refine gate_callee (f := 13) rfl ?_); refine goesL_ (some 4) rfl rfl Tryd.func13 (by kernel_rfl) rfl #[.int .i64 32768] rfl (by (try simp only [List.map_toArray, List.map_cons, List.map_nil]); first | done | rfl | (simp only [List.length_drop, List.length_take]; rfl)) ?_; (with_reducible refine (screeroom_Many.calls 32768 t412 w _ ?side1 A2.out).mono ?_); (case side1 => repeat (first | (with_reducible first | exact HB.out | apply below_alloc | apply pw_below_drewN | apply below_drew1) | exact HB.out)); rintro e w9 ⟨g413, rfl, hi, hb, hb2⟩; refine ⟨_, rfl, ?_⟩; have n0_ := Aside0.mk (hb); have n1_ := Aside0.mk (hi); clear HB; have HB := n0_; have HI413 := n1_; clear n0_ n1_; (try clear hb); (try clear hb2); (try clear hk); (try clear hi)) | ((with_reducible refine gate_callee (f := 31) rfl ?_); refine goesL_ (some 7) rfl rfl Tryd.func31 (by kernel_rfl) rfl #[.pointer (some ⟨g413, 0, none⟩), .slice A0 l0.length c0] rfl (by (try simp only [List.map_toArray, List.map_cons, List.map_nil]); first | done | rfl | (simp only [List.length_drop, List.length_take]; rfl)) ?_; (with_reducible refine (screeroom_Count_Entries.calls k g413 t412 _ _ l0 t414 w _ ?side1 ?side2 ?side3 ?side4 A3.out).mono ?_); (case side1 => repeat (first | (with_reducible first | exact HI413.out | apply IsS91.alloc | apply IsS91.drewN | apply IsS91.drew | apply IsS91.set_0) | exact HI413.out)); (case side2 => repeat (first | (with_reducible first | exact HB.out | apply below_alloc | apply pw_below_drewN | apply below_drew1 | refine below_set ?_ (IsS91.ge HI413.out)) | exact HB.out)); (case side3 => exact Kd.C_foot_came k30_heap HR0.out (by repeat (first | (with_reducible first | exact HB.out | apply below_alloc | apply pw_below_drewN | apply below_drew1 | refine below_set ?_ (IsS91.ge HI413.out)) | exact HB.out)) (IsS91.ge HI413.out)); (case side4 => exact HC0.out); rintro e w10 ⟨rfl, hi, hb, hk⟩; refine ⟨_, rfl, ?_⟩; have n0_ := Aside0.mk (hb); have n1_ := Aside0.mk (hi); clear HB; clear HI413; have HB := n0_; have HI413 := n1_; clear n0_ n1_; (try clear hb); (try clear hb2); (try clear hk); (try clear hi)))
    go_ret
    exact ⟨by first | rfl | (simp [errW_none, errW_some] <;> rfl) | (simp [*, errW_none, errW_some] <;> rfl), by repeat (first | (with_reducible first | exact HB.out | apply below_alloc | apply pw_below_drewN | apply below_drew1 | refine below_set ?_ (IsS91.ge HI413.out)) | exact HB.out)⟩
end Go.Proofs.YtaonjmkfbfhanaaDoor.QBo
namespace Go.Proofs.YtaonjmkfbfhanaaDoor.SmE
open Go.RowKit Go.Proofs.YtaonjmkfbfhanaaDoorW.PrintWords Go.Proofs.YtaonjmkfbfhanaaDoor.Own Go.Proofs.YtaonjmkfbfhanaaDoor.Wk Go.Proofs.YtaonjmkfbfhanaaDoor.QBo
open Go.Proofs.YtaonjmkfbfhanaaDoor.Bk (En kE)
set_option linter.unusedVariables false
def addC (s n : Int) : Int := if s ≥ 0 then s - n else s
def cntE : Int → List En → Int
  | s, [] => s
  | s, x :: l => if s ≥ 0 then cntE (addC (addC s (1 + (x.f0.size : Int))) (x.f3.size : Int)) l else s
def partsE (l : List En) : Nat := (l.map fun x => 1 + x.f0.size + x.f3.size).sum
def FitE (l : List En) : Prop := ∀ x ∈ l, x.f0.size ≤ 140737488351232 ∧ x.f3.size ≤ 140737488351232
def In (s : Int) : Prop := -1000000000000000 ≤ s ∧ s ≤ 32768
theorem addC_in {s n : Int} (h : In s) (h0 : 0 ≤ n) (h1 : n ≤ 140737488355328) : In (addC s n) := by
  unfold In at *; unfold addC; split <;> omega
theorem wrap_in {a : Int} (h0 : -9223372036854775808 ≤ a) (h1 : a < 9223372036854775808) : wrap64 a = a := by unfold wrap64; omega
theorem add_eq {s n : Int} (h : In s) (h0 : 0 ≤ n) (h1 : n ≤ 140737488355328) : ∃ b, screeroom_Count_Add.f s n = some (b, addC s n) := by
  unfold screeroom_Count_Add.f addC
  unfold In at h
  split
  · rw [wrap_in (by omega) (by omega)]; exact ⟨_, rfl⟩
  · exact ⟨_, rfl⟩
theorem text_eq {s : Int} {x : ByteArray} (h : In s) (hx : x.size ≤ 140737488351232) : screeroom_Count_Text.f s x = some (addC s (1 + (x.size : Int))) := by
  unfold screeroom_Count_Text.f
  rw [wrap_in (by omega) (by omega)]
  obtain ⟨b, hb⟩ := add_eq h (n := 1 + (x.size : Int)) (by omega) (by omega)
  rw [hb]
  rfl
theorem entries_ev (l : List En) (hl : l.length ≤ 140737488351232) (hf : FitE l) (d : Nat) : ∀ (i : Nat) (s : Int), i + d = l.length → In s → Ev (fun k => screeroom_Count_Entries.l0 k l (i : Int) s) (cntE s (l.drop i)) := by
  induction d with
  | zero =>
    intro i s hi hs
    refine Ev.step (f := fun k => screeroom_Count_Entries.j1 k l (i : Int) false s) (fun k => ?_) (Ev.step (f := fun _ => some s) (fun k => ?_) ?_)
    · rw [screeroom_Count_Entries.l0, if_neg (by omega)]
    · rw [screeroom_Count_Entries.j1, if_neg (by decide)]
    · rw [List.drop_of_length_le (by omega)]; exact Ev.now _
  | succ d ih =>
    intro i s hi hs
    have hlt : i < l.length := by omega
    have hx : (rd_T30 l (i : Int)) = l[i] := by simp [rd_T30, List.getD_eq_getElem?_getD, hlt]
    rw [List.drop_eq_getElem_cons hlt]
    unfold cntE
    by_cases h0 : s ≥ 0
    · rw [if_pos h0]
      have hm := hf l[i] (List.getElem_mem hlt)
      have hs1 := addC_in hs (n := 1 + (l[i].f0.size : Int)) (by omega) (by omega)
      have hs2 := addC_in hs1 (n := (l[i].f3.size : Int)) (by omega) (by omega)
      obtain ⟨b, hb⟩ := add_eq hs1 (n := (l[i].f3.size : Int)) (by omega) (by omega)
      refine Ev.step (f := fun k => screeroom_Count_Entries.j1 k l (i : Int) true s) (fun k => ?_) (Ev.step (fun k => ?_) (ih (i + 1) _ (by omega) hs2))
      · rw [screeroom_Count_Entries.l0, if_pos (by omega)]
        unfold screeroom_Count_Ok.f
        rw [decide_eq_true h0]
        rfl
      · rw [screeroom_Count_Entries.j1, if_pos rfl, if_pos (by omega), if_pos (by omega), hx, text_eq hs hm.1, Option.bind_some, hb, Option.bind_some, wrap_in (by omega) (by omega)]
        rfl
    · rw [if_neg h0]
      refine Ev.step (f := fun k => screeroom_Count_Entries.j1 k l (i : Int) false s) (fun k => ?_) (Ev.step (f := fun _ => some s) (fun k => ?_) (Ev.now _))
      · rw [screeroom_Count_Entries.l0, if_pos (by omega)]
        unfold screeroom_Count_Ok.f
        rw [decide_eq_false h0]
        rfl
      · rw [screeroom_Count_Entries.j1, if_neg (by decide)]
theorem entries_eq {l : List En} {s : Int} (hl : l.length ≤ 140737488351232) (hf : FitE l) (hs : In s) : ∃ k, screeroom_Count_Entries.f k s l = some (cntE s l) := by
  have h := (entries_ev l hl hf l.length 0 s (by omega) hs).rounds
  exact h
theorem cntE_parts {l : List En} : ∀ {s : Int}, 0 ≤ cntE s l → 0 ≤ s ∧ (partsE l : Int) + cntE s l = s := by
  induction l with
  | nil => intro s h; exact ⟨h, by simp [partsE, cntE]⟩
  | cons x l ih =>
    intro s h
    unfold cntE at h ⊢
    by_cases h0 : s ≥ 0
    · rw [if_pos h0] at h ⊢
      obtain ⟨h1, h2⟩ := ih h
      have hp : partsE (x :: l) = 1 + x.f0.size + x.f3.size + partsE l := by simp [partsE]
      have h3 : 0 ≤ addC s (1 + (x.f0.size : Int)) := by
        rcases Int.lt_or_le (addC s (1 + (x.f0.size : Int))) 0 with hlt | hge
        · have : addC (addC s (1 + (x.f0.size : Int))) (x.f3.size : Int) = addC s (1 + (x.f0.size : Int)) := by rw [addC, if_neg (by omega)]
          omega
        · exact hge
      have e1 : addC s (1 + (x.f0.size : Int)) = s - (1 + (x.f0.size : Int)) := by rw [addC, if_pos h0]
      have e2 : addC (addC s (1 + (x.f0.size : Int))) (x.f3.size : Int) = addC s (1 + (x.f0.size : Int)) - (x.f3.size : Int) := by rw [addC, if_pos h3]
      exact ⟨h0, by rw [hp]; omega⟩
    · rw [if_neg h0] at h
      omega
def smallB (l : List En) : Bool := decide (l.length ≤ 200) && decide (0 ≤ cntE 32768 l)
theorem smallB_true {l : List En} (h : smallB l = true) : l.length ≤ 200 ∧ partsE l ≤ 32768 := by
  unfold smallB at h
  rw [Bool.and_eq_true, decide_eq_true_eq, decide_eq_true_eq] at h
  obtain ⟨h1, h2⟩ := h
  have := (cntE_parts h2).2
  exact ⟨h1, by omega⟩
theorem small_calls {w : World} {A : Option Addr} {n c : Nat} {l : List En} (h : Rd kE w A n c l) (hl : l.length ≤ 140737488351232) (hf : FitE l) :
    Calls Tryd.prog 10 #[.slice A n c] w fun e w' => e = .returned (.bool (smallB l)) ∧ Below w.heap.size w w' := by
  obtain ⟨e1, h2, h3⟩ := h
  subst e1
  obtain ⟨k, hk⟩ := entries_eq hl hf (s := 32768) ⟨by decide, by decide⟩
  refine (screelaw9_small.calls k A c l (smallB l) w h3 h2 ?_).mono ?_
  · unfold screelaw9_small.f screeroom_Many.f
    rw [Option.bind_some, hk, Option.bind_some]
    unfold smallB screeroom_Count_Ok.f
    by_cases h200 : l.length ≤ 200
    · rw [if_pos (by omega), decide_eq_true h200]
      rfl
    · rw [if_neg (by omega), decide_eq_false h200]
      rfl
  · rintro e w' ⟨rfl, hb⟩
    exact ⟨rfl, by first | exact hb | exact hb.below⟩
end Go.Proofs.YtaonjmkfbfhanaaDoor.SmE
namespace Go.Proofs.YtaonjmkfbfhanaaDoor
open Go.ChangeShapes Go.WideShapes Go.ChangeAt Go.RowKit
theorem bound {H : Type} {l : List (DataW H)} (hk : Rows.uptoSmall H l = true) : Rows.uptoBulkAll l ≤ 1048576 := of_decide_eq_true hk
end Go.Proofs.YtaonjmkfbfhanaaDoor
namespace Go.Proofs.YtaonjmkfbfhanaaDoor
namespace Opn
open Go.ChangeShapes Go.WideShapes Go.ChangeAt Go.RowKit Go.Deep
open YtaonjmkfbfhanaaDoorW.PrintWords
set_option linter.unusedVariables false
def Opens {H : Type} (enc : TypeId × Value → H) (P : Program) (W : World) (e : TypeId) {α : Type} (d : Kd α) (G : α → Prop) (wt : α → Nat) : Prop :=
  ∀ (base : Nat) (held : Bool) (fuel : Nat) (cs : List Value) (x : DataW H × List MemPlace), DataW.trod enc P W base (fun _ => true) held fuel e cs = some x → (∀ n ∈ x.1.weights P e, n ≤ 140737488351232) → ∃ v, d.K W v cs ∧ G v ∧ wt v ≤ Rows.uptoBulk x.1
section
variable {H : Type} {enc : TypeId × Value → H} {P : Program} {W : World} {t e : TypeId}
theorem opens_int {k : IntKind} (he : P.underlying e = some (.int k)) : Opens enc P W e (Kd.int k) (fun n => (Lit.int k n).wf = true) (fun _ => 1) := by
  intro base held fuel cs x h hw
  obtain ⟨n, rfl, rfl, hwf⟩ := DataW.trod_int he h
  exact ⟨n, rfl, hwf, by simp [Rows.uptoBulk]⟩
theorem opens_bool (he : P.underlying e = some .bool) : Opens enc P W e Kd.bool (fun _ => True) (fun _ => 1) := by
  intro base held fuel cs x h hw
  obtain ⟨n, rfl, rfl⟩ := DataW.trod_bool he h
  exact ⟨n, rfl, trivial, by simp [Rows.uptoBulk]⟩
theorem opens_str (he : P.underlying e = some .string) : Opens enc P W e Kd.string (fun s => s.size ≤ 140737488351232) (fun s => s.size + 1) := by
  intro base held fuel cs x h hw
  obtain ⟨s, rfl, rfl, hm⟩ := DataW.trod_string he h
  have hl : s.data.toList.length = s.size := Array.length_toList
  refine ⟨s, rfl, ?_, by simp only [Rows.uptoBulk, hl]; exact Nat.le_refl _⟩
  have := hw s.data.toList.length (by simp [DataW.weights])
  rw [hl] at this
  exact this
theorem list_of {α : Type} (n : Nat) (Q : Nat → α → Prop) (h : ∀ i, i < n → ∃ v, Q i v) : ∃ l : List α, l.length = n ∧ ∀ i v, l[i]? = some v → Q i v := by
  induction n with
  | zero => exact ⟨[], rfl, fun i v hv => by simp at hv⟩
  | succ n ih =>
    obtain ⟨l, hl, hq⟩ := ih (fun i hi => h i (by omega))
    obtain ⟨v, hv⟩ := h n (by omega)
    refine ⟨l ++ [v], by simp [hl], fun i u hu => ?_⟩
    by_cases hi : i < l.length
    · rw [List.getElem?_append_left hi] at hu
      exact hq i u hu
    · rw [List.getElem?_append_right (by omega)] at hu
      have h0 : i - l.length = 0 := by
        have := (List.getElem?_eq_some_iff.1 hu).1
        simp at this
        omega
      rw [h0] at hu
      simp at hu
      have hin : i = n := by omega
      subst hu
      subst hin
      exact hv
theorem bulk_all (l : List (DataW H)) : Rows.uptoBulkAll l = (l.map Rows.uptoBulk).sum := by
  induction l with
  | nil => simp [Rows.uptoBulkAll]
  | cons d l ih => simp [Rows.uptoBulkAll, ih]
theorem weights_all {d : DataW H} {l : List (DataW H)} (hd : d ∈ l) : ∀ n ∈ d.weights P e, n ∈ DataW.weightsAll P e l := by
  induction l with
  | nil => cases hd
  | cons y l ih =>
    intro n hn
    simp only [DataW.weightsAll, List.mem_append]
    rcases List.mem_cons.1 hd with rfl | hd
    · exact .inl hn
    · exact .inr (ih hd n hn)
theorem sum_bulk {α : Type} (wt : α → Nat) (l : List α) : ∀ (D : Nat → DataW H) (o : Nat), (∀ i v, l[i]? = some v → wt v ≤ Rows.uptoBulk (D (o + i))) → (l.map wt).sum ≤ (((List.range l.length).map fun i => D (o + i)).map Rows.uptoBulk).sum := by
  induction l with
  | nil => intro D o h; simp
  | cons x l ih =>
    intro D o h
    have h0 := h 0 x rfl
    have h1 := ih D (o + 1) (fun i v hv => by rw [Nat.add_assoc, Nat.add_comm 1]; exact h (i + 1) v (by simpa using hv))
    simp only [List.map_cons, List.sum_cons, List.length_cons, List.range_succ_eq_map, List.map_map]
    simp only [List.map_map] at h1
    have e : (Rows.uptoBulk ∘ (fun i => D (o + i)) ∘ Nat.succ) = (Rows.uptoBulk ∘ fun i => D (o + 1 + i)) := by
      funext i
      simp only [Function.comp]
      rw [show o + i.succ = o + 1 + i by omega]
    rw [e]
    simp only [Nat.add_zero] at h0 ⊢
    omega
theorem opens_slice {α : Type} {d : Kd α} {G : α → Prop} {wt : α → Nat} (ht : P.underlying t = some (.slice e)) (hc : P.cellsOf e = d.sz) (h : Opens enc P W e d G wt) :
    Opens enc P W t (Kd.slice e d) (fun l => l.length * P.bytesOf e ≤ 140737488351232 ∧ ∀ x ∈ l, G x) (fun l => (l.map wt).sum + 1) := by
  intro base held fuel cs x hx hw
  rcases open_slice ht hx with ⟨rfl, rfl⟩ | ⟨a, len, cap, m, n, D, Pl, rfl, hb, hl, hm, hmm, rfl, hi⟩
  · exact ⟨[], ⟨none, 0, rfl, Nat.le_refl _, Kd.C_nil _ _⟩, ⟨by simp, fun x hx => by cases hx⟩, by simp [Rows.uptoBulk]⟩
  · simp only [if_true] at hmm
    subst hmm
    have hwe : ∀ i, i < m → ∀ q ∈ (D i).weights P e, q ≤ 140737488351232 := by
      intro i him q hq
      refine hw q ?_
      simp only [DataW.weights, ht, List.mem_cons, List.mem_append]
      right
      by_cases hil : i < len
      · exact .inl (weights_all (List.mem_map.2 ⟨i, List.mem_range.2 hil, rfl⟩) q hq)
      · exact .inr (weights_all (List.mem_map.2 ⟨i - len, List.mem_range.2 (by omega), by rw [show len + (i - len) = i by omega]⟩) q hq)
    obtain ⟨l, hll, hq⟩ := list_of len (fun i v => ∃ cs', W.cells? base (a.add (i * P.cellsOf e)) (P.cellsOf e) = some cs' ∧ d.K W v cs' ∧ G v ∧ wt v ≤ Rows.uptoBulk (D i)) (fun i hil => by
      obtain ⟨cs', h1, h2⟩ := hi i (by omega)
      obtain ⟨v, k1, k2, k3⟩ := h base held n cs' (D i, Pl i) h2 (hwe i (by omega))
      exact ⟨v, cs', h1, k1, k2, k3⟩)
    refine ⟨l, ⟨some a, m, by rw [hll], by omega, rfl, by unfold maxLen at hm; omega, fun h0 => ⟨a, rfl, fun j p hp => ?_⟩⟩, ⟨?_, fun v hv => ?_⟩, ?_⟩
    · obtain ⟨cs', h1, k1, k2, k3⟩ := hq j p hp
      obtain ⟨_, hcl, hat⟩ := World.cells?_some h1
      rw [hc] at hcl hat
      refine ⟨cs', hcl, k1, fun i u hu => ?_⟩
      have hil : i < d.sz := by rw [← hcl]; exact (List.getElem?_eq_some_iff.1 hu).1
      have := hat i hil
      rw [hu, Go.Deep.add_add] at this
      exact this
    · have := hw ((len + (m - len)) * P.bytesOf e) (by simp [DataW.weights, ht])
      rw [hll]
      refine Nat.le_trans (Nat.mul_le_mul_right _ ?_) this
      omega
    · obtain ⟨i, hiv⟩ := List.getElem?_of_mem hv
      obtain ⟨cs', h1, k1, k2, k3⟩ := hq i v hiv
      exact k2
    · have hs := sum_bulk wt l D 0 (fun i v hv => by
        obtain ⟨cs', h1, k1, k2, k3⟩ := hq i v hv
        rw [Nat.zero_add]
        exact k3)
      simp only [Nat.zero_add] at hs
      rw [hll] at hs
      have e0 : (fun i => D i) = D := rfl
      rw [e0] at hs
      simp only [Rows.uptoBulk, bulk_all]
      omega
theorem field_at {fs : Array Field} {cs : List Value} (hone : oneCellFields P fs = true) (hcl : cs.length = fs.size) {xs : List (DataW H × List MemPlace)} {n base : Nat} {held : Bool}
    (hf : ∀ (i : Nat) (f : Field), fs[i]? = some f → DataW.trod enc P W base (fun _ => true) held n f.type ((cs.drop f.offset).take (P.cellsOf f.type)) = xs[i]?) (j : Nat) (f : Field) (hj : fs[j]? = some f) : ∃ v, cs[j]? = some v ∧ DataW.trod enc P W base (fun _ => true) held n f.type [v] = xs[j]? := by
  obtain ⟨ho, hk⟩ := hone_of hone j f hj
  have hjl : j < cs.length := by rw [hcl]; exact (Array.getElem?_eq_some_iff.1 hj).1
  have h1 := hf j f hj
  rw [ho, hk, List.drop_eq_getElem_cons hjl] at h1
  exact ⟨cs[j], List.getElem?_eq_getElem hjl, h1⟩
theorem each_mem {ts : List TypeId} {ds : List (DataW H)} {j : Nat} {u : TypeId} {d : DataW H} (ht : ts[j]? = some u) (hd : ds[j]? = some d) (hw : ∀ n ∈ DataW.weightsEach P ts ds, n ≤ 140737488351232) : ∀ n ∈ d.weights P u, n ≤ 140737488351232 := fun n hn => hw n (DataW.weights_mem_each ht hd n hn)
theorem slice_arg {α : Type} {d : Kd α} {G : List α → Prop} {wt : List α → Nat} {base : Nat} {held : Bool} {a : Option Addr} {len cap : Nat} {da : DataW H} {ps : List MemPlace} {ts : List TypeId} {ds : List (DataW H)} {j : Nat} (ho : Opens enc P W t (Kd.slice e d) G wt)
    (hsz : (DataW.weightsEach P ts ds).all (· ≤ reachBytes) = true) (hts : ts[j]? = some t) (hds : ds[j]? = some da) (h : DataW.Trod enc P W base (fun _ => true) held t (.slice a len cap) da ps) :
    ∃ l : List α, len = l.length ∧ d.C W a l.length l ∧ l.length ≤ cap ∧ G l ∧ wt l ≤ Rows.uptoBulk da := by
  obtain ⟨fuel, hf⟩ := h
  obtain ⟨l, ⟨A, c, he, hlc, hC⟩, hg, hb⟩ := ho base held fuel _ _ hf (fun n hn => by
    exact of_decide_eq_true (List.all_eq_true.1 hsz n (DataW.weights_mem_each hts hds n hn)))
  simp only [Value.cells, List.cons.injEq, and_true, Value.slice.injEq] at he
  obtain ⟨rfl, rfl, rfl⟩ := he
  exact ⟨l, rfl, hC, hlc, hg, hb⟩
end
end Opn
end Go.Proofs.YtaonjmkfbfhanaaDoor
namespace Go.Proofs.YtaonjmkfbfhanaaDoor
namespace Opn
open Go.ChangeShapes Go.WideShapes Go.ChangeAt Go.RowKit Go.Deep
open YtaonjmkfbfhanaaDoorW.PrintWords
set_option linter.unusedVariables false
section
variable {H : Type} {enc : TypeId × Value → H} {P : Program} {W : World} {t : TypeId}
theorem opens_subs {α : Type} {d : Kd α} {f0 f1 f2 f3 : Field} {mk : ByteArray → Int → Bool → ByteArray → α} {G : α → Prop} {wt : α → Nat} (ht : P.underlying t = some (.struct #[f0, f1, f2, f3])) (hone : oneCellFields P #[f0, f1, f2, f3] = true) (hC : P.cellsOf t = 4)
    (h0 : P.underlying f0.type = some .string) (h1 : P.underlying f1.type = some (.int .u64)) (h2 : P.underlying f2.type = some .bool) (h3 : P.underlying f3.type = some .string) (hK : ∀ a n b c, d.K W (mk a n b c) [.string a, .int .u64 n, .bool b, .string c])
    (hG : ∀ a n b c, a.size ≤ 140737488351232 → (Lit.int .u64 n).wf = true → c.size ≤ 140737488351232 → G (mk a n b c)) (hwt : ∀ a n b c, wt (mk a n b c) ≤ a.size + c.size + 5) : Opens enc P W t d G wt := by
  intro base held fuel cs x hx hw
  obtain ⟨xs, n, _, rfl, hcl, hxl, hf⟩ := DataW.trod_struct ht hx
  rw [hC] at hcl
  obtain ⟨v0, e0, g0⟩ := field_at hone hcl hf 0 f0 rfl
  obtain ⟨v1, e1, g1⟩ := field_at hone hcl hf 1 f1 rfl
  obtain ⟨v2, e2, g2⟩ := field_at hone hcl hf 2 f2 rfl
  obtain ⟨v3, e3, g3⟩ := field_at hone hcl hf 3 f3 rfl
  have hxl' : xs.length = 4 := hxl
  match xs, hxl' with
  | [y0, y1, y2, y3], _ =>
    match cs, hcl with
    | [c0, c1, c2, c3], _ =>
      simp only [List.getElem?_cons_zero, List.getElem?_cons_succ, Option.some.injEq] at e0 e1 e2 e3 g0 g1 g2 g3
      subst e0 e1 e2 e3
      simp only [List.map_cons, List.map_nil, DataW.weights, ht] at hw
      have w0 := each_mem (P := P) (j := 0) (ts := [f0.type, f1.type, f2.type, f3.type]) (ds := [y0.1, y1.1, y2.1, y3.1]) rfl rfl hw
      have w3 := each_mem (P := P) (j := 3) (ts := [f0.type, f1.type, f2.type, f3.type]) (ds := [y0.1, y1.1, y2.1, y3.1]) rfl rfl hw
      obtain ⟨s0, hk0, q0, b0⟩ := opens_str h0 base held n [c0] y0 g0 w0
      obtain ⟨s1, hk1, q1, b1⟩ := opens_int h1 base held n [c1] y1 g1 (fun n hn => by
        obtain ⟨b, _, hy, _⟩ := DataW.trod_int h1 g1
        rw [hy] at hn
        simp [DataW.weights] at hn)
      obtain ⟨s2, hk2, q2, b2⟩ := opens_bool h2 base held n [c2] y2 g2 (fun n hn => by
        obtain ⟨b, _, hy⟩ := DataW.trod_bool h2 g2
        rw [hy] at hn
        simp [DataW.weights] at hn)
      obtain ⟨s3, hk3, q3, b3⟩ := opens_str h3 base held n [c3] y3 g3 w3
      have k0 : c0 = .string s0 := List.cons.inj hk0 |>.1
      have k1 : c1 = .int .u64 s1 := List.cons.inj hk1 |>.1
      have k2 : c2 = .bool s2 := List.cons.inj hk2 |>.1
      have k3 : c3 = .string s3 := List.cons.inj hk3 |>.1
      subst k0 k1 k2 k3
      refine ⟨mk s0 s1 s2 s3, hK _ _ _ _, hG _ _ _ _ q0 q1 q3, ?_⟩
      have := hwt s0 s1 s2 s3
      dsimp only at b0 b1 b2 b3
      simp only [List.map_cons, List.map_nil, Rows.uptoBulk, Rows.uptoBulkAll]
      omega
end
section
variable {H : Type} {enc : TypeId × Value → H} {W : World}
abbrev En := QBo.S30
abbrev kEn : Kd En := QBo.k30
def wtE (x : En) : Nat := x.f0.size + x.f3.size + 5
def wtEs (l : List En) : Nat := (l.map wtE).sum + 1
def GE (x : En) : Prop := x.f0.size ≤ 140737488351232 ∧ (Lit.int .u64 x.f1).wf = true ∧ x.f3.size ≤ 140737488351232
theorem opens_entry : Opens enc Tryd.prog W 30 kEn GE wtE :=
  opens_subs (mk := fun a n b c => ⟨a, n, b, c⟩) Tryd.underlying30 (by kernel_rfl) (by kernel_rfl) Tryd.underlying9 Tryd.underlying28 Tryd.underlying4 Tryd.underlying9 (fun a n b c => QBo.k30_mk W ⟨a, n, b, c⟩) (fun a n b c h0 h1 h2 => ⟨h0, h1, h2⟩) (fun a n b c => by show a.size + c.size + 5 ≤ _; omega)
theorem opens_entries : Opens enc Tryd.prog W 25 (Kd.slice 30 kEn) (fun l => l.length * Tryd.prog.bytesOf 30 ≤ 140737488351232 ∧ ∀ x ∈ l, GE x) wtEs := opens_slice Tryd.underlying25 (by kernel_rfl) opens_entry
theorem bytesE : Tryd.prog.bytesOf 30 = 48 := by kernel_rfl
def GEs (l : List En) : Prop := l.length ≤ 140737488351232 ∧ ∀ x ∈ l, GE x
theorem entries_arg {base : Nat} {held : Bool} {a : Option Addr} {len cap : Nat} {da : DataW H} {ps : List MemPlace} {ts : List TypeId} {ds : List (DataW H)} {j : Nat}
    (hsz : (DataW.weightsEach Tryd.prog ts ds).all (· ≤ reachBytes) = true) (hts : ts[j]? = some 25) (hds : ds[j]? = some da) (h : DataW.Trod enc Tryd.prog W base (fun _ => true) held 25 (.slice a len cap) da ps) :
    ∃ l : List En, len = l.length ∧ kEn.C W a l.length l ∧ l.length ≤ cap ∧ GEs l ∧ wtEs l ≤ Rows.uptoBulk da := by
  obtain ⟨l, h1, h2, h3, ⟨h4, h5⟩, h6⟩ := slice_arg opens_entries hsz hts hds h
  rw [bytesE] at h4
  exact ⟨l, h1, h2, h3, ⟨by omega, h5⟩, h6⟩
end
end Opn
end Go.Proofs.YtaonjmkfbfhanaaDoor
namespace Go.Proofs.YtaonjmkfbfhanaaDoor.Bk
open Go.RowKit Go.Proofs.YtaonjmkfbfhanaaDoorW.PrintWords Go.Proofs.YtaonjmkfbfhanaaDoor.Own Go.Proofs.YtaonjmkfbfhanaaDoor.G Go.Proofs.YtaonjmkfbfhanaaDoor.Wk Go.Proofs.YtaonjmkfbfhanaaDoor.QBo
open Go.Proofs.YtaonjmkfbfhanaaDoor.SmE (smallB smallB_true small_calls FitE partsE)
set_option linter.unusedVariables false
theorem made_sub : ∀ (l : List En) (m : Mk), (madeM m l).1.length ≤ l.length ∧ ∀ e ∈ (madeM m l).1, e ∈ l := by
  intro l
  induction l with
  | nil => intro m; exact ⟨Nat.le_refl _, fun e he => he⟩
  | cons x l ih =>
    intro m
    unfold madeM
    by_cases h0 : (addM m x).1 = 0
    · rw [if_pos h0]
      obtain ⟨h1, h2⟩ := ih (addM m x).2
      refine ⟨by simp only [List.length_cons]; omega, fun e he => ?_⟩
      rcases List.mem_cons.1 he with rfl | he
      · simp
      · exact List.mem_cons_of_mem _ (h2 e he)
    · rw [if_neg h0]
      obtain ⟨h1, h2⟩ := ih (addM m x).2
      exact ⟨by simp only [List.length_cons]; omega, fun e he => List.mem_cons_of_mem _ (h2 e he)⟩
theorem enW_of {L : List En} (h : Opn.GEs L) : (∀ e ∈ L, EnW e) ∧ FitE L := by
  refine ⟨fun e he => ?_, fun e he => ⟨(h.2 e he).1, (h.2 e he).2.2⟩⟩
  have z := (h.2 e he).2.1
  have z2 : 0 ≤ e.f1 ∧ e.f1 ≤ 18446744073709551615 := by simpa [Lit.wf, IntKind.min, IntKind.max, IntKind.signed, IntKind.bits] using z
  exact z2
structure MadeOk (r : Int) (L I : List En) (M : Mk) : Prop where
  adds : addsM (newM r) I = some M
  len : I.length ≤ L.length
  en : ∀ e ∈ I, EnW e
  good : GoodM r M I.length
  again : madeM (newM r) I = (I, M)
theorem made_ok {r : Int} {L I : List En} {M : Mk} (h : madeM (newM r) L = (I, M)) (hw : ∀ e ∈ L, EnW e) : MadeOk r L I M := by
  have h1 := made_push L (newM r)
  have h2 := made_sub L (newM r)
  have h3 := made_small r L hw
  rw [h] at h1 h2 h3
  exact ⟨h1, h2.1, fun e he => hw e (h2.2 e he), h3, (adds_push I h1).2.2⟩
theorem MadeOk.bytes {r : Int} {L I : List En} {M : Mk} (h : MadeOk r L I M) (hl : L.length ≤ 200) : Bytes (bytesM M) ∧ (bytesM M).length ≤ 140808 ∧ openB (bytesM M) = some (I, rsRead r I) ∧ M.data.length < 1073741824 := by
  have h1 := h.len
  have h2 := bytesM_small h.good
  have h3 := h.good.data
  have h4 := h.good.places
  refine ⟨bytesM_bytes h.good.bytes (fun p hp => ?_) (by omega), by omega, open_made r I h.adds h.en (by omega), by omega⟩
  have := h.good.small p hp
  omega
end Go.Proofs.YtaonjmkfbfhanaaDoor.Bk
namespace Go.Proofs.YtaonjmkfbfhanaaDoor.BlockBack
open Go.RowKit Go.Proofs.YtaonjmkfbfhanaaDoorW.PrintWords Go.Proofs.YtaonjmkfbfhanaaDoor.Own Go.Proofs.YtaonjmkfbfhanaaDoor.Wk Go.Proofs.YtaonjmkfbfhanaaDoor.QBo
set_option linter.unusedVariables false
end Go.Proofs.YtaonjmkfbfhanaaDoor.BlockBack
namespace Go.Proofs.YtaonjmkfbfhanaaDoor.Tn
open Go.RowKit Go.Proofs.YtaonjmkfbfhanaaDoorW.PrintWords Go.Proofs.YtaonjmkfbfhanaaDoor.Own Go.Proofs.YtaonjmkfbfhanaaDoor.G Go.Proofs.YtaonjmkfbfhanaaDoor.Wk Go.Proofs.YtaonjmkfbfhanaaDoor.QBo Go.Proofs.YtaonjmkfbfhanaaDoor.Bk Go.Proofs.YtaonjmkfbfhanaaDoor.Rf
set_option linter.unusedVariables false
def addC (s n : Int) : Int := if s ≥ 0 then s - n else s
def In (s : Int) : Prop := -1000000000000000 ≤ s ∧ s ≤ 131072
theorem addC_in {s n : Int} (h : In s) (h0 : 0 ≤ n) (h1 : n ≤ 140737488355328) : In (addC s n) := by
  unfold In at *; unfold addC; split <;> omega
theorem add_eq {s n : Int} (h : In s) (h0 : 0 ≤ n) (h1 : n ≤ 140737488355328) : ∃ b, screeroom_Count_Add.f s n = some (b, addC s n) := by
  unfold screeroom_Count_Add.f addC
  unfold In at h
  split
  · rw [show wrap64 (s - n) = s - n by unfold wrap64; omega]; exact ⟨_, rfl⟩
  · exact ⟨_, rfl⟩
structure Sh where
  g : Nat
  A : Option Addr
  n : Nat
  c : Nat
def ShOk (W : World) (x : Sh) (L : List En) : Prop := ∃ (Ak : Option Addr) (nk ck R : Nat), W.heap[x.g]? = some (.cells #[.slice Ak nk ck, .int .i64 (R : Int)] 98 (0, 0)) ∧ kE.R 30 W 0 (fun _ => True) (.slice Ak nk ck) L ∧ kE.R 30 W 0 (fun _ => True) (.slice x.A x.n x.c) L ∧ 1 ≤ R ∧ R ≤ 1073741824 ∧ L.length ≤ 1000000 ∧ Taken L
theorem ShOk.below {W W' : World} {x : Sh} {L : List En} (h : ShOk W x L) (hb : Below W.heap.size W W') : ShOk W' x L := by
  obtain ⟨Ak, nk, ck, R, h1, h2, h3, h4⟩ := h
  exact ⟨Ak, nk, ck, R, (hb.block _ (blk_lt h1)).trans h1, Kd.R_below h2 hb, Kd.R_below h3 hb, h4⟩
theorem row_grown {W W1 : World} {v : Value} {es : List En} {row : Option Nat} (h : kE.R 30 W 0 (fun _ => True) v es) (hg : W.grownBy W1 row) (hr : ∀ k, row = some k → ∃ cs, W.heap[k]? = some (.cells cs 48 (0, 0))) : kE.R 30 W1 0 (fun _ => True) v es := by
  refine Kd.R_mono (Kd.R_step (Kd.R_bound h) (fun k hk hlt => ?_)) (fun _ _ => trivial)
  obtain ⟨_, _, _, q, hq, cs, hc⟩ := hk
  have hq' := kE_typed hq
  subst hq'
  exact hg.block k hlt (fun e => by
    obtain ⟨c2, e2⟩ := hr k e.symm
    rw [hc] at e2; injection e2 with e2; injection e2 with _ e3; exact absurd e3 (by decide))
theorem ShOk.grown {W W1 : World} {x : Sh} {L : List En} {row : Option Nat} (h : ShOk W x L) (hg : W.grownBy W1 row) (hr : ∀ k, row = some k → ∃ cs, W.heap[k]? = some (.cells cs 48 (0, 0))) : ShOk W1 x L := by
  obtain ⟨Ak, nk, ck, R, h1, h2, h3, h4⟩ := h
  refine ⟨Ak, nk, ck, R, (hg.block _ (blk_lt h1) (fun e => ?_)).trans h1, row_grown h2 hg hr, row_grown h3 hg hr, h4⟩
  obtain ⟨cs, hc⟩ := hr x.g e.symm
  rw [h1] at hc; injection hc with hc; injection hc with _ e3; exact absurd e3 (by decide)
theorem seek_post {w w' : World} {es : List En} {q : Option Nat} {e : Ending} (h : SeekPost w es q e w') : e = .returned (.tuple #[.agg #[.string (seekO es q).1, .int .u64 (seekO es q).2.1, .bool (seekO es q).2.2.1, .string (seekO es q).2.2.2.1], .bool (seekO es q).2.2.2.2]) ∧ Below w.heap.size w w' := by
  cases q with
  | none => exact ⟨h.1, h.2⟩
  | some a => exact ⟨h.1.2, h.2⟩
end Go.Proofs.YtaonjmkfbfhanaaDoor.Tn
namespace Go.Proofs.YtaonjmkfbfhanaaDoor
namespace Opn
open Go.ChangeShapes Go.WideShapes Go.ChangeAt Go.RowKit Go.Deep
open YtaonjmkfbfhanaaDoorW.PrintWords
set_option linter.unusedVariables false
section
variable {H : Type} {enc : TypeId × Value → H} {W : World}
def wtK (l : List ByteArray) : Nat := (l.map fun s => s.size + 1).sum + 1
theorem opens_keys : Opens enc Tryd.prog W 23 (Kd.slice 9 Kd.string) (fun l => l.length * Tryd.prog.bytesOf 9 ≤ 140737488351232 ∧ ∀ x ∈ l, x.size ≤ 140737488351232) wtK := opens_slice Tryd.underlying23 (by kernel_rfl) (opens_str Tryd.underlying9)
theorem bytesS : Tryd.prog.bytesOf 9 = 16 := by kernel_rfl
def GK (l : List ByteArray) : Prop := l.length ≤ 140737488351232 ∧ ∀ x ∈ l, x.size ≤ 140737488351232
theorem keys_arg {base : Nat} {held : Bool} {a : Option Addr} {len cap : Nat} {da : DataW H} {ps : List MemPlace} {ts : List TypeId} {ds : List (DataW H)} {j : Nat}
    (hsz : (DataW.weightsEach Tryd.prog ts ds).all (· ≤ reachBytes) = true) (hts : ts[j]? = some 23) (hds : ds[j]? = some da) (h : DataW.Trod enc Tryd.prog W base (fun _ => true) held 23 (.slice a len cap) da ps) :
    ∃ l : List ByteArray, len = l.length ∧ Kd.string.C W a l.length l ∧ l.length ≤ cap ∧ GK l ∧ wtK l ≤ Rows.uptoBulk da := by
  obtain ⟨l, h1, h2, h3, ⟨h4, h5⟩, h6⟩ := slice_arg opens_keys hsz hts hds h
  rw [bytesS] at h4
  exact ⟨l, h1, h2, h3, ⟨by omega, h5⟩, h6⟩
end
end Opn
end Go.Proofs.YtaonjmkfbfhanaaDoor
namespace Go.Proofs.YtaonjmkfbfhanaaDoor.Bk
open Go.RowKit Go.Shelf Go.Proofs.YtaonjmkfbfhanaaDoorW.PrintWords Go.Proofs.YtaonjmkfbfhanaaDoor.Own Go.Proofs.YtaonjmkfbfhanaaDoor.G Go.Proofs.YtaonjmkfbfhanaaDoor.Wk Go.Proofs.YtaonjmkfbfhanaaDoor.QBo
set_option linter.unusedVariables false
attribute [local go_sem] Oper.semAt_some
def regAt (n : Nat) : Code → Option Code
  | .seq a b => match regAt n a with
    | some c => some c
    | none => regAt n b
  | .region i ops d => if i = n then some (.region i ops d) else none
  | _ => none
noncomputable def reg9 : Code := ((Tryd.f30.body.bind (regAt 9)).getD .skip)
set_option maxRecDepth 100000 in
set_option maxHeartbeats 16000000 in
theorem again_r9A (h20 : Fence.wide.fn 20) (Q : Exit → Act → World → Prop) (ds : List Deferred) (W : World) (s : Nat) (q : Int) (Aw Av : Option Addr) (n1 cw m qv : Nat) (u0 u3 u6 u7 u15 u16 u17 u18 u19 : Value)
    (hc4 : W.cell? ⟨s, 0, none⟩ = some (.int .i64 q)) (hc5 : W.cell? ⟨s + 1, 0, none⟩ = some (.slice Aw n1 cw)) (hc8 : W.cell? ⟨s + 1 + 1 + 1 + 1, 0, none⟩ = some (.slice Av m qv))
    (d1 : decide (0 < q) = true) (d2 : decide (q < (n1 : Int)) = true) (d3 : decide (q < 1) = false) (d4 : decide ((n1 : Int) ≤ q) = false) (hcut : ∀ W : World, (Instr.slice 25 (.slice Aw n1 cw) none (some (.int .i64 q)) none).run Tryd.prog W = .ok (.slice Aw q.toNat cw) W)
    (HS9 : ∀ k, CallsIn Fence.wide (9 - 1) Tryd.prog 20 #[.slice Av m qv, .slice Aw q.toNat cw] (W.drewN k) fun e w'' => e = .returned (.bool true) ∧ ∃ m, w'' = W.drewN m)
    (hQ : ∀ (k : Nat) (u29 u30 u31 u32 u33 u34 u35 u36 u37 u38 u39 u40 u41 u42 u43 u44 u45 u46 u47 u48 u49 u50 u51 u52 u53 u54 u55 u56 u57 u58 u59 : Value), Q .normal { tmps := #[u0, .int .i64 q, .slice Aw n1 cw, u3, .pointer (some ⟨s, 0, none⟩), .pointer (some ⟨s + 1, 0, none⟩), u6, u7, .pointer (some ⟨s + 1 + 1 + 1 + 1, 0, none⟩), undef, undef, undef, undef, undef, undef, u15, u16, u17, u18, u19, undef, undef, undef, undef, undef, undef, undef, undef, undef, u29, u30, u31, u32, u33, u34, u35, u36, u37, u38, u39, u40, u41, u42, u43, u44, u45, u46, u47, u48, u49, u50, u51, u52, u53, u54, u55, u56, u57, u58, u59, .bool false, undef, undef, undef, undef, undef, undef, undef, undef, undef, undef, undef, undef, undef, undef, undef, undef, undef, undef, undef, undef, undef, undef, undef, undef, undef, undef, undef], defers := ds } (W.drewN k)) :
    reg9.wpIn Fence.wide 9 Tryd.prog Q { tmps := #[u0, .int .i64 q, .slice Aw n1 cw, u3, .pointer (some ⟨s, 0, none⟩), .pointer (some ⟨s + 1, 0, none⟩), u6, u7, .pointer (some ⟨s + 1 + 1 + 1 + 1, 0, none⟩), undef, undef, undef, undef, undef, undef, u15, u16, u17, u18, u19, undef, undef, undef, undef, undef, undef, undef, undef, undef, undef, undef, undef, undef, undef, undef, undef, undef, undef, undef, undef, undef, undef, undef, undef, undef, undef, undef, undef, undef, undef, undef, undef, undef, undef, undef, undef, undef, undef, undef, undef, undef, undef, undef, undef, undef, undef, undef, undef, undef, undef, undef, undef, undef, undef, undef, undef, undef, undef, undef, undef, undef, undef, undef, undef, undef, undef, undef, undef], defers := ds } W := by
  have H := Aside0.mk HS9
  have H2 := Aside0.mk hQ
  clear HS9 hQ
  conv => arg 4; whnf
  gi_quiet_th (((gi_at_call 20; exact H.out _)))
  exact H2.out _ _ _ _ _ _ _ _ _ _ _ _ _ _ _ _ _ _ _ _ _ _ _ _ _ _ _ _ _ _ _ _
set_option maxRecDepth 100000 in
set_option maxHeartbeats 16000000 in
theorem again_r9B (h20 : Fence.wide.fn 20) (Q : Exit → Act → World → Prop) (ds : List Deferred) (W : World) (s : Nat) (q : Int) (Aw Av : Option Addr) (n1 cw m qv : Nat) (u0 u3 u6 u7 u15 u16 u17 u18 u19 : Value)
    (hc4 : W.cell? ⟨s, 0, none⟩ = some (.int .i64 q)) (hc5 : W.cell? ⟨s + 1, 0, none⟩ = some (.slice Aw n1 cw)) (hc8 : W.cell? ⟨s + 1 + 1 + 1 + 1, 0, none⟩ = some (.slice Av m qv))
    (d1 : decide (0 < q) = false) (d3 : decide (q < 1) = true)
    (HS9 : ∀ k, CallsIn Fence.wide (9 - 1) Tryd.prog 20 #[.slice Av m qv, .slice Aw n1 cw] (W.drewN k) fun e w'' => e = .returned (.bool true) ∧ ∃ m, w'' = W.drewN m)
    (hQ : ∀ (k : Nat) (u29 u30 u31 u32 u33 u34 u35 u36 u37 u38 u39 u40 u41 u42 u43 u44 u45 u46 u47 u48 u49 u50 u51 u52 u53 u54 u55 u56 u57 u58 u59 : Value), Q .normal { tmps := #[u0, .int .i64 q, .slice Aw n1 cw, u3, .pointer (some ⟨s, 0, none⟩), .pointer (some ⟨s + 1, 0, none⟩), u6, u7, .pointer (some ⟨s + 1 + 1 + 1 + 1, 0, none⟩), undef, undef, undef, undef, undef, undef, u15, u16, u17, u18, u19, undef, undef, undef, undef, undef, undef, undef, undef, undef, u29, u30, u31, u32, u33, u34, u35, u36, u37, u38, u39, u40, u41, u42, u43, u44, u45, u46, u47, u48, u49, u50, u51, u52, u53, u54, u55, u56, u57, u58, u59, .bool false, undef, undef, undef, undef, undef, undef, undef, undef, undef, undef, undef, undef, undef, undef, undef, undef, undef, undef, undef, undef, undef, undef, undef, undef, undef, undef, undef], defers := ds } (W.drewN k)) :
    reg9.wpIn Fence.wide 9 Tryd.prog Q { tmps := #[u0, .int .i64 q, .slice Aw n1 cw, u3, .pointer (some ⟨s, 0, none⟩), .pointer (some ⟨s + 1, 0, none⟩), u6, u7, .pointer (some ⟨s + 1 + 1 + 1 + 1, 0, none⟩), undef, undef, undef, undef, undef, undef, u15, u16, u17, u18, u19, undef, undef, undef, undef, undef, undef, undef, undef, undef, undef, undef, undef, undef, undef, undef, undef, undef, undef, undef, undef, undef, undef, undef, undef, undef, undef, undef, undef, undef, undef, undef, undef, undef, undef, undef, undef, undef, undef, undef, undef, undef, undef, undef, undef, undef, undef, undef, undef, undef, undef, undef, undef, undef, undef, undef, undef, undef, undef, undef, undef, undef, undef, undef, undef, undef, undef, undef, undef], defers := ds } W := by
  have H := Aside0.mk HS9
  have H2 := Aside0.mk hQ
  clear HS9 hQ
  conv => arg 4; whnf
  gi_quiet_th (((gi_at_call 20; exact H.out _)))
  exact H2.out _ _ _ _ _ _ _ _ _ _ _ _ _ _ _ _ _ _ _ _ _ _ _ _ _ _ _ _ _ _ _ _
set_option maxRecDepth 100000 in
set_option maxHeartbeats 16000000 in
theorem again_r9C (h20 : Fence.wide.fn 20) (Q : Exit → Act → World → Prop) (ds : List Deferred) (W : World) (s : Nat) (q : Int) (Aw Av : Option Addr) (n1 cw m qv : Nat) (u0 u3 u6 u7 u15 u16 u17 u18 u19 : Value)
    (hc4 : W.cell? ⟨s, 0, none⟩ = some (.int .i64 q)) (hc5 : W.cell? ⟨s + 1, 0, none⟩ = some (.slice Aw n1 cw)) (hc8 : W.cell? ⟨s + 1 + 1 + 1 + 1, 0, none⟩ = some (.slice Av m qv))
    (d1 : decide (0 < q) = true) (d2 : decide (q < (n1 : Int)) = false) (d3 : decide (q < 1) = false) (d4 : decide ((n1 : Int) ≤ q) = true)
    (HS9 : ∀ k, CallsIn Fence.wide (9 - 1) Tryd.prog 20 #[.slice Av m qv, .slice Aw n1 cw] (W.drewN k) fun e w'' => e = .returned (.bool true) ∧ ∃ m, w'' = W.drewN m)
    (hQ : ∀ (k : Nat) (u29 u30 u31 u32 u33 u34 u35 u36 u37 u38 u39 u40 u41 u42 u43 u44 u45 u46 u47 u48 u49 u50 u51 u52 u53 u54 u55 u56 u57 u58 u59 : Value), Q .normal { tmps := #[u0, .int .i64 q, .slice Aw n1 cw, u3, .pointer (some ⟨s, 0, none⟩), .pointer (some ⟨s + 1, 0, none⟩), u6, u7, .pointer (some ⟨s + 1 + 1 + 1 + 1, 0, none⟩), undef, undef, undef, undef, undef, undef, u15, u16, u17, u18, u19, undef, undef, undef, undef, undef, undef, undef, undef, undef, u29, u30, u31, u32, u33, u34, u35, u36, u37, u38, u39, u40, u41, u42, u43, u44, u45, u46, u47, u48, u49, u50, u51, u52, u53, u54, u55, u56, u57, u58, u59, .bool false, undef, undef, undef, undef, undef, undef, undef, undef, undef, undef, undef, undef, undef, undef, undef, undef, undef, undef, undef, undef, undef, undef, undef, undef, undef, undef, undef], defers := ds } (W.drewN k)) :
    reg9.wpIn Fence.wide 9 Tryd.prog Q { tmps := #[u0, .int .i64 q, .slice Aw n1 cw, u3, .pointer (some ⟨s, 0, none⟩), .pointer (some ⟨s + 1, 0, none⟩), u6, u7, .pointer (some ⟨s + 1 + 1 + 1 + 1, 0, none⟩), undef, undef, undef, undef, undef, undef, u15, u16, u17, u18, u19, undef, undef, undef, undef, undef, undef, undef, undef, undef, undef, undef, undef, undef, undef, undef, undef, undef, undef, undef, undef, undef, undef, undef, undef, undef, undef, undef, undef, undef, undef, undef, undef, undef, undef, undef, undef, undef, undef, undef, undef, undef, undef, undef, undef, undef, undef, undef, undef, undef, undef, undef, undef, undef, undef, undef, undef, undef, undef, undef, undef, undef, undef, undef, undef, undef, undef, undef, undef], defers := ds } W := by
  have H := Aside0.mk HS9
  have H2 := Aside0.mk hQ
  clear HS9 hQ
  conv => arg 4; whnf
  gi_quiet_th (((gi_at_call 20; exact H.out _)))
  exact H2.out _ _ _ _ _ _ _ _ _ _ _ _ _ _ _ _ _ _ _ _ _ _ _ _ _ _ _ _ _ _ _ _
theorem same_quiet {w : World} {A1 A2 : Option Addr} {n1 c1 n2 c2 : Nat} {l : List En} (h1 : Kd.C kE w A1 n1 l) (hc1 : n1 ≤ c1) (h2 : Kd.C kE w A2 n2 l) (hc2 : n2 ≤ c2) (hl : l.length ≤ 1000000000) :
    Calls Tryd.prog 20 #[.slice A1 n1 c1, .slice A2 n2 c2] w fun e w' => e = .returned (.bool true) ∧ ∃ k, w' = w.drewN k := by
  have e1 : l.length = n1 := h1.1
  have e2 : l.length = n2 := h2.1
  subst e1
  subst e2
  refine (screelaw9_sameEntries.calls (l.length + 1) A1 c1 l A2 c2 l true w h1 hc1 h2 hc2 (by unfold screelaw9_sameEntries.f; rw [if_pos rfl]; exact same_l0 l hl l.length 0 (by omega))).mono ?_
  rintro e w' ⟨rfl, k, h⟩
  exact ⟨rfl, k, h⟩
def someL (q : Int) (es : List En) : List En := if 0 < q ∧ q < (es.length : Int) then es.take q.toNat else es
theorem again_r9 (h20 : Fence.wide.fn 20) (hse : ∀ (m : Nat) (args : Array Value) (w : World) (R : Ending → World → Prop), Calls Tryd.prog 20 args w R → CallsIn Fence.wide m Tryd.prog 20 args w R) (Q : Exit → Act → World → Prop) (ds : List Deferred) (W : World) (s : Nat) (q : Int) (Aw Av : Option Addr) (n1 cw m qv : Nat) (es : List En) (u0 u3 u6 u7 u15 u16 u17 u18 u19 : Value)
    (hc4 : W.cell? ⟨s, 0, none⟩ = some (.int .i64 q)) (hc5 : W.cell? ⟨s + 1, 0, none⟩ = some (.slice Aw n1 cw)) (hc8 : W.cell? ⟨s + 1 + 1 + 1 + 1, 0, none⟩ = some (.slice Av m qv))
    (hn : es.length = n1) (hl : n1 ≤ 1000000000) (hcw : n1 ≤ cw) (hmq : m ≤ qv) (hW : Kd.C kE W Aw n1 es) (hV : Kd.C kE W Av m (someL q es))
    (hQ : ∀ (k : Nat) (u29 u30 u31 u32 u33 u34 u35 u36 u37 u38 u39 u40 u41 u42 u43 u44 u45 u46 u47 u48 u49 u50 u51 u52 u53 u54 u55 u56 u57 u58 u59 : Value), Q .normal { tmps := #[u0, .int .i64 q, .slice Aw n1 cw, u3, .pointer (some ⟨s, 0, none⟩), .pointer (some ⟨s + 1, 0, none⟩), u6, u7, .pointer (some ⟨s + 1 + 1 + 1 + 1, 0, none⟩), undef, undef, undef, undef, undef, undef, u15, u16, u17, u18, u19, undef, undef, undef, undef, undef, undef, undef, undef, undef, u29, u30, u31, u32, u33, u34, u35, u36, u37, u38, u39, u40, u41, u42, u43, u44, u45, u46, u47, u48, u49, u50, u51, u52, u53, u54, u55, u56, u57, u58, u59, .bool false, undef, undef, undef, undef, undef, undef, undef, undef, undef, undef, undef, undef, undef, undef, undef, undef, undef, undef, undef, undef, undef, undef, undef, undef, undef, undef, undef], defers := ds } (W.drewN k)) :
    reg9.wpIn Fence.wide 9 Tryd.prog Q { tmps := #[u0, .int .i64 q, .slice Aw n1 cw, u3, .pointer (some ⟨s, 0, none⟩), .pointer (some ⟨s + 1, 0, none⟩), u6, u7, .pointer (some ⟨s + 1 + 1 + 1 + 1, 0, none⟩), undef, undef, undef, undef, undef, undef, u15, u16, u17, u18, u19, undef, undef, undef, undef, undef, undef, undef, undef, undef, undef, undef, undef, undef, undef, undef, undef, undef, undef, undef, undef, undef, undef, undef, undef, undef, undef, undef, undef, undef, undef, undef, undef, undef, undef, undef, undef, undef, undef, undef, undef, undef, undef, undef, undef, undef, undef, undef, undef, undef, undef, undef, undef, undef, undef, undef, undef, undef, undef, undef, undef, undef, undef, undef, undef, undef, undef, undef, undef], defers := ds } W := by
  have hdr : ∀ {A : Option Addr} {n : Nat} {l : List En} (k : Nat), Kd.C kE W A n l → Kd.C kE (W.drewN k) A n l := fun k h => Kd.C_drewN h k
  by_cases hA1 : 0 < q
  · by_cases hA2 : q < (n1 : Int)
    · obtain ⟨i0, hi0, _, _, _⟩ := info_parts infoE
      have hs : someL q es = es.take q.toNat := by unfold someL; rw [if_pos ⟨hA1, by omega⟩]
      rw [hs] at hV
      obtain ⟨r1, r2, r3⟩ := Rd.take (m := q.toNat) (⟨hn, hcw, hW⟩ : Rd kE W Aw n1 cw es) (by omega)
      refine again_r9A h20 Q ds W s q Aw Av n1 cw m qv u0 u3 u6 u7 u15 u16 u17 u18 u19 hc4 hc5 hc8 (decide_eq_true hA1) (decide_eq_true hA2) (decide_eq_false (by omega)) (decide_eq_false (by omega)) (cut_to (P := Tryd.prog) 25 30 .i64 Tryd.underlying25 hi0 Aw n1 cw q (by omega) (by omega) hcw) (fun k => CallsIn.quiet_of (hse _ _ _ _ (same_quiet (hdr k hV) hmq (hdr k r3) r2 (by omega)))) hQ
    · have hs : someL q es = es := by unfold someL; rw [if_neg (fun h => hA2 (by omega))]
      rw [hs] at hV
      exact again_r9C h20 Q ds W s q Aw Av n1 cw m qv u0 u3 u6 u7 u15 u16 u17 u18 u19 hc4 hc5 hc8 (decide_eq_true hA1) (decide_eq_false hA2) (decide_eq_false (by omega)) (decide_eq_true (by omega)) (fun k => CallsIn.quiet_of (hse _ _ _ _ (same_quiet (hdr k hV) hmq (hdr k hW) hcw (by omega)))) hQ
  · have hs : someL q es = es := by unfold someL; rw [if_neg (fun h => hA1 h.1)]
    rw [hs] at hV
    exact again_r9B h20 Q ds W s q Aw Av n1 cw m qv u0 u3 u6 u7 u15 u16 u17 u18 u19 hc4 hc5 hc8 (decide_eq_false hA1) (decide_eq_true (by omega)) (fun k => CallsIn.quiet_of (hse _ _ _ _ (same_quiet (hdr k hV) hmq (hdr k hW) hcw (by omega)))) hQ
end Go.Proofs.YtaonjmkfbfhanaaDoor.Bk
namespace Go.Proofs.YtaonjmkfbfhanaaDoor.Bk
open Go.RowKit Go.Shelf Go.Proofs.YtaonjmkfbfhanaaDoorW.PrintWords Go.Proofs.YtaonjmkfbfhanaaDoor.Own Go.Proofs.YtaonjmkfbfhanaaDoor.G Go.Proofs.YtaonjmkfbfhanaaDoor.Wk Go.Proofs.YtaonjmkfbfhanaaDoor.QBo
set_option linter.unusedVariables false
attribute [local go_sem] Oper.semAt_some
theorem run_store_func {P : Program} {w : World} {a : Addr} {m : Mode} (f : Fn) (xs ys : Array Value) : (store a (.func f xs ys) m).run P w = stored P w a (.func f xs ys) m := run_store P w a _ m rfl
attribute [local go_sem] run_store_func
def Bx4 (W : World) (s : Nat) (q : Int) (Aw : Option Addr) (n1 cw gk : Nat) : Prop := Boxed W s 3 (.int .i64 q) ∧ Boxed W (s + 1) 25 (.slice Aw n1 cw) ∧ Boxed W (s + 1 + 1) 39 (.pointer (some ⟨gk, 0, none⟩)) ∧ Boxed W (s + 1 + 1 + 1) 105 (.func (.func 80) #[] #[.pointer (some ⟨s + 1 + 1, 0, none⟩)])
theorem bx4_own {β : Type} (B s : Nat) (q : Int) (Aw : Option Addr) (n1 cw gk : Nat) : OwnFrom B (fun (_ : β) W => Bx4 W s q Aw n1 cw gk) :=
 OwnFrom.and (Own.from (boxed_own _ _ _) _) (OwnFrom.and (Own.from (boxed_own _ _ _) _) (OwnFrom.and (Own.from (boxed_own _ _ _) _) (Own.from (boxed_own _ _ _) _)))
section
variable {W w1 : World} {s : Nat} {q : Int} {Aw : Option Addr} {n1 cw gk : Nat}
theorem Bx4.alloc (h : Bx4 W s q Aw n1 cw gk) (o : Obj) : Bx4 (W.alloc o) s q Aw n1 cw gk := ⟨h.1.alloc o, h.2.1.alloc o, h.2.2.1.alloc o, h.2.2.2.alloc o⟩
theorem Bx4.drewN (h : Bx4 W s q Aw n1 cw gk) (k : Nat) : Bx4 (W.drewN k) s q Aw n1 cw gk := h
theorem Bx4.set (h : Bx4 W s q Aw n1 cw gk) (B : Nat) (hB : s + 1 + 1 + 1 < B) (v : Value) : Bx4 (W.setCell ⟨B, 0, none⟩ v) s q Aw n1 cw gk := ⟨h.1.other (by omega) _, h.2.1.other (by omega) _, h.2.2.1.other (by omega) _, h.2.2.2.other (by omega) _⟩
theorem Bx4.row (h : Bx4 W s q Aw n1 cw gk) {base size k : Nat} {v : Value} {xs : List Value} (hr : W.ownsRow base 30 size v k xs) (hg : W.grownBy w1 v.ownBlock) : Bx4 w1 s q Aw n1 cw gk :=
 ⟨h.1.kept hg (h.1.not_row (by decide) hr), h.2.1.kept hg (h.2.1.not_row (by decide) hr), h.2.2.1.kept hg (h.2.2.1.not_row (by decide) hr), h.2.2.2.kept hg (h.2.2.2.not_row (by decide) hr)⟩
theorem Bx4.lt (h : Bx4 W s q Aw n1 cw gk) : s + 1 + 1 + 1 < W.heap.size := h.2.2.2.lt
end
theorem def_own {β : Type} {B D : Nat} {o : Obj} (h : D < B) : OwnFrom B (fun (_ : β) W => W.heap[D]? = some o) := fun s X Y row hs hg hr =>
 (hg.block D (Array.getElem?_eq_some_iff.1 hs).1 (fun e => by have := (hr _ e.symm).1; omega)).trans hs
theorem row_own {β : Type} {n₀ : Nat} {e : TypeId} {size k : Nat} {v : Value} {xs : List Value} (B : Nat) : OwnFrom B (fun (_ : β) W => W.ownsRow n₀ e size v k xs) := fun s X Y row hs hg hr => by
 refine hs.kept hg ?_
 rcases hs.2 with ⟨rfl, _⟩ | ⟨g, cap, cur, rfl, _, hgb, _⟩
 ·exact .inl rfl
 ·refine .inr fun e' => ?_
  obtain ⟨_, o, ho, hc⟩ := hr g e'.symm
  rw [hgb] at ho
  cases ho
  cases hc
set_option maxRecDepth 100000 in
set_option maxHeartbeats 16000000 in
theorem again_in (h30 : Fence.wide.fn 30) (h47 : Fence.wide.fn 47) (h80 : Fence.wide.fn 80) (h20 : Fence.wide.fn 20) (hro : Fence.wide.round = none) (hse : ∀ (m : Nat) (args : Array Value) (w : World) (R : Ending → World → Prop), Calls Tryd.prog 20 args w R → CallsIn Fence.wide m Tryd.prog 20 args w R)
  (gk n1 c1 : Nat) (A : Option Addr) (es : List En) (q : Int) (Aw : Option Addr) (cw : Nat) (w : World) (hn1 : es.length = n1) (hl : n1 ≤ 1000000000) (hgk : w.cell? ⟨gk, 0, none⟩ = some (.slice A n1 c1)) (hC : Kd.C kE w A n1 es) (hW : Kd.C kE w Aw n1 es) (hcw : n1 ≤ cw) :
  CallsIn Fence.wide 9 Tryd.prog 30 #[.pointer (some ⟨gk, 0, none⟩), .int .i64 q, .slice Aw n1 cw] w fun e W' => e = .returned (.bool true) ∧ Below w.heap.size w W' := by
 have hnf : ∀ (c : Array Value) (W : World), (binOp .eql 105 (.func (.func 80) #[] c) .nilFunc).run Tryd.prog W = .ok (.bool false) W := fun c W => by rfl
 obtain ⟨i0, hi, hz0, hz1, hz2⟩ := info_parts infoE
 have h1 : 1 ≤ 9 := by omega
 refine callsIn_of_wp_marks Tryd.func30 rfl h30 ?_ hro
 simp only [Tryd.ntmps30, List.size_toArray, List.length_cons, List.length_nil, Nat.reduceAdd, Nat.reduceSub, Array.replicate_succ, Array.replicate_zero, List.push_toArray, List.append_toArray, List.nil_append, List.cons_append]
 gi_wp2_with (gi_at_call 47; refine (all_in Fence.wide (9 - 1) h47 hro _ _).mono ?_; rintro e w' ⟨rfl, rfl⟩)
 have bN := Boxed.new w 3 (.int .i64 q)
 have bW := Boxed.new (w.alloc (.cells #[.int .i64 q] 3)) 25 (.slice Aw n1 cw)
 have bR := Boxed.new ((w.alloc (.cells #[.int .i64 q] 3)).alloc (.cells #[.slice Aw n1 cw] 25)) 39 (.pointer (some ⟨gk, 0, none⟩))
 have bA := Boxed.new (((w.alloc (.cells #[.int .i64 q] 3)).alloc (.cells #[.slice Aw n1 cw] 25)).alloc (.cells #[.pointer (some ⟨gk, 0, none⟩)] 39)) 105 (.func (.func 80) #[] #[.pointer (some ⟨w.heap.size + 1 + 1, 0, none⟩)])
 have bS := Boxed.new ((((w.alloc (.cells #[.int .i64 q] 3)).alloc (.cells #[.slice Aw n1 cw] 25)).alloc (.cells #[.pointer (some ⟨gk, 0, none⟩)] 39)).alloc (.cells #[.func (.func 80) #[] #[.pointer (some ⟨w.heap.size + 1 + 1, 0, none⟩)]] 105)) 25 (.slice none 0 0)
 simp only [World.size_alloc] at bW bR bA bS
 obtain ⟨W0, hW0⟩ : ∃ W0, (((((w.alloc (.cells #[.int .i64 q] 3)).alloc (.cells #[.slice Aw n1 cw] 25)).alloc (.cells #[.pointer (some ⟨gk, 0, none⟩)] 39)).alloc (.cells #[.func (.func 80) #[] #[.pointer (some ⟨w.heap.size + 1 + 1, 0, none⟩)]] 105)).alloc (.cells #[.slice none 0 0] 25)) = W0 := ⟨_, rfl⟩
 have B40 : Bx4 W0 w.heap.size q Aw n1 cw gk := by
  rw [← hW0]
  exact ⟨(((bN.alloc _).alloc _).alloc _).alloc _, ((bW.alloc _).alloc _).alloc _, (bR.alloc _).alloc _, bA.alloc _⟩
 have bS0 : Boxed W0 (w.heap.size + 1 + 1 + 1 + 1) 25 (.slice none 0 0) := by rw [← hW0]; exact bS
 have hB0 : Below w.heap.size w W0 := by
  rw [← hW0]
  exact ((((((Below.refl _ w).alloc (Nat.le_refl _) _).alloc (by simp) _).alloc (by simp; omega) _).alloc (by simp; omega) _).alloc (by simp; omega) _)
 have hs0 : W0.heap.size = w.heap.size + 1 + 1 + 1 + 1 + 1 := by rw [← hW0]; simp
 rw [hW0]
 clear bN bW bR bA bS hW0
 refine (fun (REST : ∀ (D1 : Nat) (pre : List En) (W : World), W0.heap.size ≤ D1 → (∃ v, Boxed W (w.heap.size + 1 + 1 + 1 + 1) 25 v ∧ W.ownsRow w.heap.size 30 4 v pre.length (pre.flatMap cE) ∧ True) → Bx4 W w.heap.size q Aw n1 cw gk → Below w.heap.size w W → pre = someL q es → W.heap[D1]? = some (.deferred (some [])) → (?G : Nat → World → Prop) D1 W) => ?main) ?rest
 case' main => skip
 refine wpIn_rangeFunc_ownH hro h1 (gf := 80) (lb := #[.pointer (some ⟨w.heap.size + 1 + 1, 0, none⟩)]) rfl h80 (enters_of Tryd.func80 (by kernel_rfl) rfl)
  (all_stops Fence.wide (9 - 1) h80 hro (by omega) (w.heap.size + 1 + 1) gk n1 c1 A es w W0 hn1 hgk hC hB0 B40.2.2.1.cell (by omega)) belowK_t (belowK_b (by omega)) (Below.refl _ _) (fun _ => rfl)
  (fun pre W => ((∃ v, Boxed W (w.heap.size + 1 + 1 + 1 + 1) 25 v ∧ W.ownsRow w.heap.size 30 4 v pre.length (pre.flatMap cE) ∧ True) ∧ Bx4 W w.heap.size q Aw n1 cw gk) ∧ (Below w.heap.size w W ∧ (0 < q → (pre.length : Int) < q)))
  (fun c pre W => ((∃ v, Boxed W (w.heap.size + 1 + 1 + 1 + 1) 25 v ∧ W.ownsRow w.heap.size 30 4 v pre.length (pre.flatMap cE) ∧ True) ∧ Bx4 W w.heap.size q Aw n1 cw gk) ∧ (Below w.heap.size w W ∧ (c = .exit 0 ∧ (pre.length : Int) = q ∧ 0 < q)))
  (OwnFrom.and (OwnFrom.and (Own.from (holdsRow_own w.heap.size (w.heap.size + 1 + 1 + 1 + 1) 25 30 4 (fun pre : List En => pre.length) (fun pre => pre.flatMap cE) (fun _ _ => True)) _) (bx4_own _ _ _ _ _ _ _)) (OwnFrom.and (ownFrom_below (Nat.le_refl _) (by omega)) (ownFrom_pure _ _)))
  (fun c => OwnFrom.and (OwnFrom.and (Own.from (holdsRow_own w.heap.size (w.heap.size + 1 + 1 + 1 + 1) 25 30 4 (fun pre : List En => pre.length) (fun pre => pre.flatMap cE) (fun _ _ => True)) _) (bx4_own _ _ _ _ _ _ _)) (OwnFrom.and (ownFrom_below (Nat.le_refl _) (by omega)) (ownFrom_pure _ _)))
  ⟨⟨⟨_, bS0, World.ownsRow_nil _ _ _ _, trivial⟩, B40⟩, hB0, fun h => h⟩
  (fun x a' W => ∃ Bx, w.heap.size + 1 + 1 + 1 + 1 < Bx ∧ W.heap[Bx]? = some (.cells #[.string x.f0, .int .u64 x.f1, .bool x.f2, .string x.f3] 30 (0, 0)) ∧ a' = { tmps := #[.pointer (some ⟨gk, 0, none⟩), .int .i64 q, .slice Aw n1 cw, undef, .pointer (some ⟨w.heap.size, 0, none⟩), .pointer (some ⟨w.heap.size + 1, 0, none⟩), .bool false, .pointer (some ⟨w.heap.size + 1 + 1 + 1, 0, none⟩), .pointer (some ⟨w.heap.size + 1 + 1 + 1 + 1, 0, none⟩), .pointer (some ⟨Bx, 0, none⟩), undef, undef, undef, undef, undef, .pointer (some ⟨gk, 0, none⟩), .func (.func 80) #[] #[.pointer (some ⟨w.heap.size + 1 + 1, 0, none⟩)], .func (.func 80) #[] #[.pointer (some ⟨w.heap.size + 1 + 1, 0, none⟩)], .bool false, .func (.func 80) #[] #[.pointer (some ⟨w.heap.size + 1 + 1, 0, none⟩)], .agg #[.string x.f0, .int .u64 x.f1, .bool x.f2, .string x.f3], undef, undef, undef, undef, undef, undef, undef, undef, undef, undef, undef, undef, undef, undef, undef, undef, undef, undef, undef, undef, undef, undef, undef, undef, undef, undef, undef, undef, undef, undef, undef, undef, undef, undef, undef, undef, undef, undef, undef, undef, undef, undef, undef, undef, undef, undef, undef, undef, undef, undef, undef, undef, undef, undef, undef, undef, undef, undef, undef, undef, undef, undef, undef, undef, undef, undef, undef], defers := [] })
  (fun x a' _ X Y row hs hg hr => by obtain ⟨Bx, h1, h2, h3⟩ := hs; exact ⟨Bx, h1, block_own (β := Unit) _ Bx _ _ () X Y row h2 hg hr, h3⟩)
  ?assign ?body ?done ?stop
 case assign =>
  rintro l pre x W K ⟨⟨⟨v, hv, hrow, -⟩, B41⟩, hB1, hlq⟩ hK
  unfold eV
  gi_wp2
  exact hK _ _ ((KeepsOthers.alloc _ _).from _) ((Below.refl _ W).alloc hB1.size _) ⟨⟨⟨_, hv.alloc _, hrow.alloc _, trivial⟩, B41.alloc _⟩, hB1.alloc hB1.size _, hlq⟩ ⟨W.heap.size, hv.lt, heap_alloc_new W _, rfl⟩
 case body =>
  rintro l pre x a' W hl ⟨r, hr⟩ ⟨⟨⟨v, hv, hrow, -⟩, B41⟩, hB1, hlq⟩ ⟨Bx, hBx, bX, rfl⟩ hlt
  have hc := hv.cell
  have cN := B41.1.cell
  have x0 : W.cell? ⟨Bx, 0, none⟩ = some (.string x.f0) := by rw [blk_cell bX]; rfl
  have x1 : W.cell? ⟨Bx, 1, none⟩ = some (.int .u64 x.f1) := by rw [blk_cell bX]; rfl
  have x2 : W.cell? ⟨Bx, 2, none⟩ = some (.bool x.f2) := by rw [blk_cell bX]; rfl
  have x3 : W.cell? ⟨Bx, 3, none⟩ = some (.string x.f3) := by rw [blk_cell bX]; rfl
  have HC4 : ∀ j u, (cE x)[j]? = some u → (W.alloc (.cells #[.string x.f0, .int .u64 x.f1, .bool x.f2, .string x.f3] 30)).cell? ((⟨W.heap.size, 0, none⟩ : Addr).add j) = some u := four_new W _ _ _ _ _
  have HO4 : ∀ u ∈ cE x, u.oneCell' = true := by unfold cE; simp [Value.oneCell']
  have hFM : (pre ++ [x]).flatMap cE = pre.flatMap cE ++ cE x := by rw [List.flatMap_append, List.flatMap_cons, List.flatMap_nil, List.append_nil]
  have hPL : (pre ++ [x]).length = pre.length + 1 := by rw [List.length_append]; rfl
  obtain ⟨k, hk⟩ : ∃ k, pre.length = k := ⟨_, rfl⟩
  rw [hk] at hrow hlt hlq
  have hkz : Aside0 ((pre ++ [x]).length = k + 1) := ⟨by rw [hPL, hk]⟩
  have HL9 : Aside0 (0 < q → (k : Int) < q) := ⟨hlq⟩
  have HPK := Aside0.mk hk
  have HFM := Aside0.mk hFM
  have HB4 := Aside0.mk B41
  clear hlq hk hFM hPL
  by_cases hq : (k : Int) + 1 = q
  ·have z1 : ((k : Int) + 1 == q) = true := beq_iff_eq.mpr hq
   have HQ := Aside0.mk hq
   clear hq
   gi_wp2_with (gi_at_builtin; go_must (refine wpListIn_append_own _ rfl _ _ 25 rfl w.heap.size 30 i0 _ 4 48 Tryd.underlying25 hi hz0 hz1 hz2 rfl (by decide) _ _ _ rfl (hrow.alloc _) ⟨W.heap.size, 0, none⟩ 1 1 (cE x) rfl rfl HC4 HO4 (show k + 1 ≤ 9223372036854775807 by omega) (by omega) (by have := hB1.size; simp; omega) ?_); intro v' w1 hown' hgrow _; obtain ⟨g', cap', rfl⟩ := ownsRow_succ hown'; (have B42 := ((HB4.out.alloc (.cells #[.string x.f0, .int .u64 x.f1, .bool x.f2, .string x.f3] 30)).row (hrow.alloc _) hgrow).set (w.heap.size + 1 + 1 + 1 + 1) (by omega) (.slice (some ⟨g', 0, none⟩) (k + 1) cap')); obtain ⟨hv1, hv2, hr2, hk2, hb2⟩ := hv.appended (by decide) hrow hB1.size (by omega) hown' hgrow; have hc1 := hv1.cell; have hf1 := hv1.frozen; have hc2 := hv2.cell; have cN2 := B42.1.cell)
   exact ⟨hk2.from _, ⟨⟨_, hv2, by rw [hkz.out, HFM.out]; exact hr2, trivial⟩, B42⟩, hB1.trans hb2, rfl, by rw [hkz.out]; have := HQ.out; omega, by have := HQ.out; omega⟩
  ·have z1 : ((k : Int) + 1 == q) = false := beq_eq_false_iff_ne.mpr hq
   have HQ := Aside0.mk hq
   clear hq
   gi_wp2_with (gi_at_builtin; go_must (refine wpListIn_append_own _ rfl _ _ 25 rfl w.heap.size 30 i0 _ 4 48 Tryd.underlying25 hi hz0 hz1 hz2 rfl (by decide) _ _ _ rfl (hrow.alloc _) ⟨W.heap.size, 0, none⟩ 1 1 (cE x) rfl rfl HC4 HO4 (show k + 1 ≤ 9223372036854775807 by omega) (by omega) (by have := hB1.size; simp; omega) ?_); intro v' w1 hown' hgrow _; obtain ⟨g', cap', rfl⟩ := ownsRow_succ hown'; (have B42 := ((HB4.out.alloc (.cells #[.string x.f0, .int .u64 x.f1, .bool x.f2, .string x.f3] 30)).row (hrow.alloc _) hgrow).set (w.heap.size + 1 + 1 + 1 + 1) (by omega) (.slice (some ⟨g', 0, none⟩) (k + 1) cap')); obtain ⟨hv1, hv2, hr2, hk2, hb2⟩ := hv.appended (by decide) hrow hB1.size (by omega) hown' hgrow; have hc1 := hv1.cell; have hf1 := hv1.frozen; have hc2 := hv2.cell; have cN2 := B42.1.cell)
   exact ⟨hk2.from _, hb2, ⟨⟨_, hv2, by rw [hkz.out, HFM.out]; exact hr2, trivial⟩, B42⟩, hB1.trans hb2, fun h => by rw [hkz.out]; have z1 := HQ.out; have z2 := HL9.out h; omega⟩
 case done =>
  rintro D1 ys W hD1 hye ⟨⟨hrow, B41⟩, hB1, hlq⟩ hK1
  exact REST D1 ys W hD1 hrow B41 hB1 (by rw [← hye]; unfold someL; rw [if_neg (fun h => by have := hlq h.1; omega)]) hK1
 case stop =>
  rintro D1 c pre W hD1 hpre ⟨⟨hrow, B41⟩, hB1, rfl, hpq, hqp⟩ hK1
  refine wpIn_exit ?_
  simp only [Exit.inBlock, if_true]
  refine REST D1 pre W hD1 hrow B41 hB1 ?_ hK1
  unfold someL
  obtain ⟨t, rfl⟩ := hpre
  by_cases hqq : 0 < q ∧ q < ((pre ++ t).length : Int)
  ·rw [if_pos hqq, ← hpq, Int.toNat_natCast, List.take_left']
   rfl
  ·rw [if_neg hqq]
   rw [List.length_append] at hqq
   have ht : t.length = 0 := by omega
   rw [List.eq_nil_of_length_eq_zero ht, List.append_nil]
 case rest =>
  rintro D1 pre W hD1 ⟨v, hv, hrow, -⟩ B41 hB1 hsm hK1
  obtain ⟨Av, qv, ev⟩ := Kd.R_slice (row_R hrow)
  subst ev
  have HVC := Aside0.mk (Kd.R_reads' (row_R hrow))
  have HWC := Aside0.mk (Kd.C_below hW hB1)
  have HB4 := Aside0.mk B41
  have HB1 := Aside0.mk hB1
  have hc8 := hv.cell
  have HSM := Aside0.mk hsm
  clear hrow B41 hB1 hsm
  gi_wp2
  refine again_r9 h20 hse _ _ W w.heap.size q Aw Av n1 cw _ qv es _ _ _ _ _ _ _ _ _ HB4.out.1.cell HB4.out.2.1.cell hc8 hn1 (by omega) hcw HVC.out.2.1 HWC.out (by rw [← HSM.out]; exact HVC.out.2.2) ?_
  intro kd u29 u30 u31 u32 u33 u34 u35 u36 u37 u38 u39 u40 u41 u42 u43 u44 u45 u46 u47 u48 u49 u50 u51 u52 u53 u54 u55 u56 u57 u58 u59
  have hc7 : (((W.drewN kd).alloc (.cells #[.slice none 0 0] 25)).alloc (.cells #[.bool true] 4)).cell? ⟨w.heap.size + 1 + 1 + 1, 0, none⟩ = some (.func (.func 80) #[] #[.pointer (some ⟨w.heap.size + 1 + 1, 0, none⟩)]) := (((HB4.out.drewN kd).alloc _).alloc _).2.2.2.cell
  clear hc8
  gi_wp2
  clear hc7
  obtain ⟨W2, hW2⟩ : ∃ W2, ((W.drewN kd).alloc (.cells #[.slice none 0 0] 25)).alloc (.cells #[.bool true] 4) = W2 := ⟨_, rfl⟩
  have hDl : D1 < W.heap.size := (Array.getElem?_eq_some_iff.1 hK1).1
  have hlt7 := HB4.out.lt
  have hK2 : W2.heap[D1]? = some (.deferred (some [])) := by
   rw [← hW2]
   exact (Below.heap_alloc _ _ _ (by simp; omega)).trans ((Below.heap_alloc (W.drewN kd) _ _ hDl).trans hK1)
  have B42 : Bx4 W2 w.heap.size q Aw n1 cw gk := by rw [← hW2]; exact ((HB4.out.drewN kd).alloc _).alloc _
  have hB2 : Below w.heap.size w W2 := by
   rw [← hW2]
   exact ((pw_below_drewN HB1.out kd).alloc HB1.out.size _).alloc (by have := HB1.out.size; simp; omega) _
  obtain ⟨b, hb⟩ : ∃ b, W.heap.size = b := ⟨_, rfl⟩
  have bL2 : Boxed W2 b 25 (.slice none 0 0) := by rw [← hW2, ← hb]; exact (Boxed.new (W.drewN kd) 25 _).alloc _
  have bO2 : Boxed W2 (b + 1) 4 (.bool true) := by
   rw [← hW2, ← hb]
   have z := Boxed.new ((W.drewN kd).alloc (.cells #[.slice none 0 0] 25)) 4 (.bool true)
   rwa [World.size_alloc] at z
  have hs2 : W2.heap.size = b + 1 + 1 := by rw [← hW2, ← hb]; simp
  rw [hW2]
  rw [hb] at hDl hlt7 ⊢
  clear hW2 hb HWC HB1 hK1
  refine wpIn_rangeFunc_ownH hro h1 (gf := 80) (lb := #[.pointer (some ⟨w.heap.size + 1 + 1, 0, none⟩)]) rfl h80 (enters_of Tryd.func80 (by kernel_rfl) rfl)
   (all_stops Fence.wide (9 - 1) h80 hro (by omega) (w.heap.size + 1 + 1) gk n1 c1 A _ w W2 hn1 hgk hC hB2 B42.2.2.1.cell (by omega)) belowK_t (belowK_b (by omega)) (Below.refl _ _) (fun _ => rfl)
   (fun pre W => ((∃ v, Boxed W b 25 v ∧ W.ownsRow w.heap.size 30 4 v pre.length (pre.flatMap cE) ∧ True) ∧ (Boxed W (b + 1) 4 (.bool true) ∧ Bx4 W w.heap.size q Aw n1 cw gk)) ∧ (Below w.heap.size w W ∧ W.heap[D1]? = some (.deferred (some []))))
   (fun _ _ _ => False)
   (OwnFrom.and (OwnFrom.and (Own.from (holdsRow_own w.heap.size b 25 30 4 (fun pre : List En => pre.length) (fun pre => pre.flatMap cE) (fun _ _ => True)) _) (OwnFrom.and (Own.from (boxed_own _ _ _) _) (bx4_own _ _ _ _ _ _ _))) (OwnFrom.and (ownFrom_below (Nat.le_refl _) (by omega)) (def_own (by omega))))
   (fun _ _ _ _ _ hs _ _ => hs)
   ⟨⟨⟨_, bL2, World.ownsRow_nil _ _ _ _, trivial⟩, bO2, B42⟩, hB2, hK2⟩
   (fun x a' W => ∃ Bx, b + 1 < Bx ∧ W.heap[Bx]? = some (.cells #[.string x.f0, .int .u64 x.f1, .bool x.f2, .string x.f3] 30 (0, 0)) ∧ a' = { tmps := #[.pointer (some ⟨gk, 0, none⟩), .int .i64 q, .slice Aw n1 cw, undef, .pointer (some ⟨w.heap.size, 0, none⟩), .pointer (some ⟨w.heap.size + 1, 0, none⟩), .bool false, .pointer (some ⟨w.heap.size + 1 + 1 + 1, 0, none⟩), .pointer (some ⟨w.heap.size + 1 + 1 + 1 + 1, 0, none⟩), undef, .pointer (some ⟨b, 0, none⟩), .pointer (some ⟨b + 1, 0, none⟩), .pointer (some ⟨Bx, 0, none⟩), undef, undef, .pointer (some ⟨gk, 0, none⟩), .func (.func 80) #[] #[.pointer (some ⟨w.heap.size + 1 + 1, 0, none⟩)], .func (.func 80) #[] #[.pointer (some ⟨w.heap.size + 1 + 1, 0, none⟩)], .bool false, .func (.func 80) #[] #[.pointer (some ⟨w.heap.size + 1 + 1, 0, none⟩)], undef, undef, undef, undef, undef, undef, undef, undef, undef, u29, u30, u31, u32, u33, u34, u35, u36, u37, u38, u39, u40, u41, u42, u43, u44, u45, u46, u47, u48, u49, u50, u51, u52, u53, u54, u55, u56, u57, u58, u59, .bool false, .func (.func 80) #[] #[.pointer (some ⟨w.heap.size + 1 + 1, 0, none⟩)], .agg #[.string x.f0, .int .u64 x.f1, .bool x.f2, .string x.f3], undef, undef, undef, undef, undef, undef, undef, undef, undef, undef, undef, undef, undef, undef, undef, undef, undef, undef, undef, undef, undef, undef, undef, undef, undef], defers := [] })
   (fun x a' _ X Y row hs hg hr => by obtain ⟨Bx, h1, h2, h3⟩ := hs; exact ⟨Bx, h1, block_own (β := Unit) _ Bx _ _ () X Y row h2 hg hr, h3⟩)
   ?assignT ?bodyT ?doneT ?stopT
  case assignT =>
   rintro l pre x W K ⟨⟨⟨v, hv, hrow, -⟩, bO3, B43⟩, hB3, hK3⟩ hK
   unfold eV
   gi_wp2
   exact hK _ _ ((KeepsOthers.alloc _ _).from _) ((Below.refl _ W).alloc hB3.size _) ⟨⟨⟨_, hv.alloc _, hrow.alloc _, trivial⟩, bO3.alloc _, B43.alloc _⟩, hB3.alloc hB3.size _, (Below.heap_alloc _ _ _ (Array.getElem?_eq_some_iff.1 hK3).1).trans hK3⟩ ⟨W.heap.size, bO3.lt, heap_alloc_new W _, rfl⟩
  case bodyT =>
   rintro l pre x a' W hl ⟨r, hr⟩ ⟨⟨⟨v, hv, hrow, -⟩, bO3, B43⟩, hB3, hK3⟩ ⟨Bx, hBx, bX, rfl⟩ hlt
   have hc := hv.cell
   have x0 : W.cell? ⟨Bx, 0, none⟩ = some (.string x.f0) := by rw [blk_cell bX]; rfl
   have x1 : W.cell? ⟨Bx, 1, none⟩ = some (.int .u64 x.f1) := by rw [blk_cell bX]; rfl
   have x2 : W.cell? ⟨Bx, 2, none⟩ = some (.bool x.f2) := by rw [blk_cell bX]; rfl
   have x3 : W.cell? ⟨Bx, 3, none⟩ = some (.string x.f3) := by rw [blk_cell bX]; rfl
   have HC4 : ∀ j u, (cE x)[j]? = some u → (W.alloc (.cells #[.string x.f0, .int .u64 x.f1, .bool x.f2, .string x.f3] 30)).cell? ((⟨W.heap.size, 0, none⟩ : Addr).add j) = some u := four_new W _ _ _ _ _
   have HO4 : ∀ u ∈ cE x, u.oneCell' = true := by unfold cE; simp [Value.oneCell']
   have hFM : (pre ++ [x]).flatMap cE = pre.flatMap cE ++ cE x := by rw [List.flatMap_append, List.flatMap_cons, List.flatMap_nil, List.append_nil]
   have hPL : (pre ++ [x]).length = pre.length + 1 := by rw [List.length_append]; rfl
   obtain ⟨k, hk⟩ : ∃ k, pre.length = k := ⟨_, rfl⟩
   rw [hk] at hrow hlt
   have hkz : Aside0 ((pre ++ [x]).length = k + 1) := ⟨by rw [hPL, hk]⟩
   have HFM := Aside0.mk hFM
   have HB43 := Aside0.mk B43
   have HK3 := Aside0.mk hK3
   have HR := Aside0.mk hr
   clear hk hFM hPL B43 hK3 hr
   by_cases hq2 : (k : Int) + 1 ≤ 2
   ·have z1 : decide ((k : Int) + 1 ≤ 2) = true := decide_eq_true hq2
    clear hq2
    gi_wp2_with (gi_at_builtin; go_must (refine wpListIn_append_own _ rfl _ _ 25 rfl w.heap.size 30 i0 _ 4 48 Tryd.underlying25 hi hz0 hz1 hz2 rfl (by decide) _ _ _ rfl (hrow.alloc _) ⟨W.heap.size, 0, none⟩ 1 1 (cE x) rfl rfl HC4 HO4 (show k + 1 ≤ 9223372036854775807 by omega) (by omega) (by have := hB3.size; simp; omega) ?_); intro v' w1 hown' hgrow _; obtain ⟨g', cap', rfl⟩ := ownsRow_succ hown'; (have B44 := ((HB43.out.alloc (.cells #[.string x.f0, .int .u64 x.f1, .bool x.f2, .string x.f3] 30)).row (hrow.alloc _) hgrow).set b (by omega) (.slice (some ⟨g', 0, none⟩) (k + 1) cap')); (have bO4 := ((bO3.alloc (.cells #[.string x.f0, .int .u64 x.f1, .bool x.f2, .string x.f3] 30)).kept hgrow (bO3.not_row (by decide) hrow)).other (B' := b) (by omega) (.slice (some ⟨g', 0, none⟩) (k + 1) cap')); obtain ⟨hv1, hv2, hr2, hk2, hb2⟩ := hv.appended (by decide) hrow hB3.size (by omega) hown' hgrow; (have hK4 := hk2.same D1 _ HK3.out rfl); have hc1 := hv1.cell; have hf1 := hv1.frozen; have hc2 := hv2.cell; (have hc7q := (B44.alloc (.cells #[.slice none 0 0] 25)).2.2.2.cell))
    clear hc hc1 hf1 hc2 hc7q x0 x1 x2 x3 HC4 HO4 hgrow hown' hrow hv bX hv1
    obtain ⟨c, hcz⟩ : ∃ c, w1.heap.size = c := ⟨_, rfl⟩
    obtain ⟨W5, hW5⟩ : ∃ W5, ((w1.setCell ⟨b, 0, none⟩ (.slice (some ⟨g', 0, none⟩) (k + 1) cap')).alloc (.cells #[.slice none 0 0] 25)) = W5 := ⟨_, rfl⟩
    have hsz4 : (w1.setCell ⟨b, 0, none⟩ (.slice (some ⟨g', 0, none⟩) (k + 1) cap')).heap.size = c := by rw [← hcz]; simp
    have B45 : Bx4 W5 w.heap.size q Aw n1 cw gk := by rw [← hW5]; exact B44.alloc _
    have bO5 : Boxed W5 (b + 1) 4 (.bool true) := by rw [← hW5]; exact bO4.alloc _
    have bL5 : Boxed W5 b 25 (.slice (some ⟨g', 0, none⟩) (k + 1) cap') := by rw [← hW5]; exact hv2.alloc _
    have hr5 : W5.ownsRow w.heap.size 30 4 (.slice (some ⟨g', 0, none⟩) (k + 1) cap') (k + 1) (pre.flatMap cE ++ cE x) := by rw [← hW5]; exact hr2.alloc _
    have bI5 : Boxed W5 c 25 (.slice none 0 0) := by rw [← hW5, ← hsz4]; exact Boxed.new _ 25 _
    have hBW5 : Below w.heap.size W W5 := by rw [← hW5]; exact hb2.alloc (Nat.le_trans hB3.size hb2.size) _
    have hKF5 : KeepsFrom W2.heap.size W W5 := by rw [← hW5]; exact (hk2.from _).trans ((KeepsOthers.alloc _ _).from _)
    have hK5 : W5.heap[D1]? = some (.deferred (some [])) := by rw [← hW5]; exact (Below.heap_alloc _ _ _ (Array.getElem?_eq_some_iff.1 hK4).1).trans hK4
    have hR5 : W5.heap[l]? = some (.loop r) := by
     rw [← hW5]
     have z := hk2.same l _ HR.out rfl
     exact (Below.heap_alloc _ _ _ (Array.getElem?_eq_some_iff.1 z).1).trans z
    have hs5 : W5.heap.size = c + 1 := by rw [← hW5, World.size_alloc, hsz4]
    have hg5 : g' < c := by have z := own_lt hr2 g' rfl; rwa [hsz4] at z
    have hbc : b + 1 < c := by have z := bO4.lt; rwa [hsz4] at z
    have hwc : w.heap.size ≤ c := by omega
    rw [hW5]
    rw [hcz]
    clear hW5 hcz hsz4 B44 bO4 hv2 hr2 hb2 hk2 hK4
    refine wpIn_rangeFunc_ownN (l₀ := l) (r₀ := r) rfl hR5 (by omega) (gf := 80) (lb := #[.pointer (some ⟨w.heap.size + 1 + 1, 0, none⟩)]) rfl h80 (enters_of Tryd.func80 (by kernel_rfl) rfl)
     ((all_stops Fence.wide (9 - 1 - 1 - 1) h80 hro (by omega) (w.heap.size + 1 + 1) gk n1 c1 A _ w W5 hn1 hgk hC (hB3.trans hBW5) B45.2.2.1.cell (by omega)).inRound l) belowK_t (belowK_b (by omega)) (Below.refl _ _) (fun _ => rfl)
     (fun pre' Wn => (∃ v', Boxed Wn c 25 v' ∧ Wn.ownsRow c 30 4 v' pre'.length (pre'.flatMap cE) ∧ True) ∧ (((Boxed Wn b 25 (.slice (some ⟨g', 0, none⟩) (k + 1) cap') ∧ Wn.ownsRow w.heap.size 30 4 (.slice (some ⟨g', 0, none⟩) (k + 1) cap') (k + 1) (pre.flatMap cE ++ cE x)) ∧ (Boxed Wn (b + 1) 4 (.bool true) ∧ Bx4 Wn w.heap.size q Aw n1 cw gk)) ∧ ((Below w.heap.size W Wn ∧ KeepsFrom W2.heap.size W Wn) ∧ Wn.heap[D1]? = some (.deferred (some [])))))
     (fun _ _ _ => False)
     (OwnFrom.and (Own.from (holdsRow_own c c 25 30 4 (fun pre : List En => pre.length) (fun pre => pre.flatMap cE) (fun _ _ => True)) _) (OwnFrom.and (OwnFrom.and (OwnFrom.and (Own.from (boxed_own _ _ _) _) (row_own _)) (OwnFrom.and (Own.from (boxed_own _ _ _) _) (bx4_own _ _ _ _ _ _ _))) (OwnFrom.and (OwnFrom.and (ownFrom_below hB3.size (by omega)) (ownFrom_keepsFrom hBW5.size)) (def_own (by omega)))))
     (fun _ _ _ _ _ hs _ _ => hs)
     ⟨⟨_, bI5, World.ownsRow_nil _ _ _ _, trivial⟩, ⟨⟨bL5, hr5⟩, bO5, B45⟩, ⟨hBW5, hKF5⟩, hK5⟩
     (fun y a'' Wn => ∃ By, c < By ∧ Wn.heap[By]? = some (.cells #[.string y.f0, .int .u64 y.f1, .bool y.f2, .string y.f3] 30 (0, 0)) ∧ a'' = { tmps := #[.pointer (some ⟨gk, 0, none⟩), .int .i64 q, .slice Aw n1 cw, undef, .pointer (some ⟨w.heap.size, 0, none⟩), .pointer (some ⟨w.heap.size + 1, 0, none⟩), .bool false, .pointer (some ⟨w.heap.size + 1 + 1 + 1, 0, none⟩), .pointer (some ⟨w.heap.size + 1 + 1 + 1 + 1, 0, none⟩), undef, .pointer (some ⟨b, 0, none⟩), .pointer (some ⟨b + 1, 0, none⟩), .pointer (some ⟨Bx, 0, none⟩), .pointer (some ⟨c, 0, none⟩), .pointer (some ⟨By, 0, none⟩), .pointer (some ⟨gk, 0, none⟩), .func (.func 80) #[] #[.pointer (some ⟨w.heap.size + 1 + 1, 0, none⟩)], .func (.func 80) #[] #[.pointer (some ⟨w.heap.size + 1 + 1, 0, none⟩)], .bool false, .func (.func 80) #[] #[.pointer (some ⟨w.heap.size + 1 + 1, 0, none⟩)], undef, undef, undef, undef, undef, undef, undef, undef, undef, u29, u30, u31, u32, u33, u34, u35, u36, u37, u38, u39, u40, u41, u42, u43, u44, u45, u46, u47, u48, u49, u50, u51, u52, u53, u54, u55, u56, u57, u58, u59, .bool false, .func (.func 80) #[] #[.pointer (some ⟨w.heap.size + 1 + 1, 0, none⟩)], .agg #[.string x.f0, .int .u64 x.f1, .bool x.f2, .string x.f3], v, .agg #[.string x.f0, .int .u64 x.f1, .bool x.f2, .string x.f3], .slice (some ⟨W.heap.size, 0, none⟩) 1 1, .slice (some ⟨g', 0, none⟩) (k + 1) cap', .slice (some ⟨g', 0, none⟩) (k + 1) cap', .int .i64 ((k : Int) + 1), .bool true, .func (.func 80) #[] #[.pointer (some ⟨w.heap.size + 1 + 1, 0, none⟩)], .agg #[.string y.f0, .int .u64 y.f1, .bool y.f2, .string y.f3], undef, undef, undef, undef, undef, undef, undef, undef, undef, undef, undef, undef, undef, undef, undef, undef], defers := [] })
     (fun y a'' _ X Y row hs hg hr => by obtain ⟨By, h1, h2, h3⟩ := hs; exact ⟨By, h1, block_own (β := Unit) _ By _ _ () X Y row h2 hg hr, h3⟩)
     ?assign3 ?body3 ?done3 ?stop3
    case assign3 =>
     rintro l2 pre' y Wn K ⟨⟨v', hv', hrow', -⟩, ⟨⟨bL6, hr6⟩, bO6, B46⟩, ⟨hBW6, hKF6⟩, hK6⟩ hK
     have hsn : w.heap.size ≤ Wn.heap.size := Nat.le_trans hB3.size hBW6.size
     unfold eV
     gi_wp2
     exact hK _ _ ((KeepsOthers.alloc _ _).from _) ((Below.refl _ Wn).alloc hsn _) ⟨⟨_, hv'.alloc _, hrow'.alloc _, trivial⟩, ⟨⟨bL6.alloc _, hr6.alloc _⟩, bO6.alloc _, B46.alloc _⟩, ⟨hBW6.alloc hsn _, hKF6.trans ((KeepsOthers.alloc _ _).from _)⟩, (Below.heap_alloc _ _ _ (Array.getElem?_eq_some_iff.1 hK6).1).trans hK6⟩ ⟨Wn.heap.size, hv'.lt, heap_alloc_new Wn _, rfl⟩
    case body3 =>
     rintro l2 pre' y a'' Wn hl2 _ ⟨⟨v', hv', hrow', -⟩, ⟨⟨bL6, hr6⟩, bO6, B46⟩, ⟨hBW6, hKF6⟩, hK6⟩ ⟨By, hBy, bY, rfl⟩ hlt'
     have hc := hv'.cell
     have y0 : Wn.cell? ⟨By, 0, none⟩ = some (.string y.f0) := by rw [blk_cell bY]; rfl
     have y1 : Wn.cell? ⟨By, 1, none⟩ = some (.int .u64 y.f1) := by rw [blk_cell bY]; rfl
     have y2 : Wn.cell? ⟨By, 2, none⟩ = some (.bool y.f2) := by rw [blk_cell bY]; rfl
     have y3 : Wn.cell? ⟨By, 3, none⟩ = some (.string y.f3) := by rw [blk_cell bY]; rfl
     have HC4 : ∀ j u, (cE y)[j]? = some u → (Wn.alloc (.cells #[.string y.f0, .int .u64 y.f1, .bool y.f2, .string y.f3] 30)).cell? ((⟨Wn.heap.size, 0, none⟩ : Addr).add j) = some u := four_new Wn _ _ _ _ _
     have HO4 : ∀ u ∈ cE y, u.oneCell' = true := by unfold cE; simp [Value.oneCell']
     have hFM' : (pre' ++ [y]).flatMap cE = pre'.flatMap cE ++ cE y := by rw [List.flatMap_append, List.flatMap_cons, List.flatMap_nil, List.append_nil]
     have hPL' : (pre' ++ [y]).length = pre'.length + 1 := by rw [List.length_append]; rfl
     obtain ⟨k', hk'⟩ : ∃ k', pre'.length = k' := ⟨_, rfl⟩
     rw [hk'] at hrow' hlt'
     have hkz' : Aside0 ((pre' ++ [y]).length = k' + 1) := ⟨by rw [hPL', hk']⟩
     have HFM' := Aside0.mk hFM'
     have HB46 := Aside0.mk B46
     have HK6 := Aside0.mk hK6
     have HR6 := Aside0.mk hr6
     have hsn : c < Wn.heap.size := hv'.lt
     have hnr : some g' ≠ v'.ownBlock := fun e => by
      have z := own_base hrow' g' e.symm
      omega
     clear hk' hFM' hPL' B46 hK6 hr6
     gi_wp2_with (gi_at_builtin; go_must (refine wpListIn_append_own _ rfl _ _ 25 rfl c 30 i0 _ 4 48 Tryd.underlying25 hi hz0 hz1 hz2 rfl (by decide) _ _ _ rfl (hrow'.alloc _) ⟨Wn.heap.size, 0, none⟩ 1 1 (cE y) rfl rfl HC4 HO4 (show k' + 1 ≤ 9223372036854775807 by omega) (by omega) (by simp; omega) ?_); intro v'' w2 hown'' hgrow' _; obtain ⟨g2, cap2, rfl⟩ := ownsRow_succ hown''; (have B47 := ((HB46.out.alloc (.cells #[.string y.f0, .int .u64 y.f1, .bool y.f2, .string y.f3] 30)).row (hrow'.alloc _) hgrow').set c (by omega) (.slice (some ⟨g2, 0, none⟩) (k' + 1) cap2)); (have bO7 := ((bO6.alloc (.cells #[.string y.f0, .int .u64 y.f1, .bool y.f2, .string y.f3] 30)).kept hgrow' (bO6.not_row (by decide) hrow')).other (B' := c) (by omega) (.slice (some ⟨g2, 0, none⟩) (k' + 1) cap2)); (have bL7 := ((bL6.alloc (.cells #[.string y.f0, .int .u64 y.f1, .bool y.f2, .string y.f3] 30)).kept hgrow' (bL6.not_row (by decide) hrow')).other (B' := c) (by omega) (.slice (some ⟨g2, 0, none⟩) (k' + 1) cap2)); (have hr7 := World.ownsRow.kept (World.ownsRow.kept (HR6.out.alloc (.cells #[.string y.f0, .int .u64 y.f1, .bool y.f2, .string y.f3] 30)) hgrow' (.inr hnr)) (grownBy_setCell' w2 c (.slice (some ⟨g2, 0, none⟩) (k' + 1) cap2)) (.inr (show some g' ≠ some c by intro e; injection e; omega))); obtain ⟨hv1, hv2, hr2, hk2, hb2⟩ := hv'.appended (by decide) hrow' (by omega) (Nat.le_refl _) hown'' hgrow'; have hc1 := hv1.cell; have hf1 := hv1.frozen)
     exact ⟨hk2.from _, hb2.mono hwc, ⟨⟨_, hv2, by rw [hkz'.out, HFM'.out]; exact hr2, trivial⟩, ⟨⟨bL7, hr7⟩, bO7, B47⟩, ⟨hBW6.trans (hb2.mono hwc), hKF6.trans (hk2.from _)⟩, hk2.same D1 _ HK6.out rfl⟩⟩
    case done3 =>
     rintro zs Wn hzs ⟨⟨v', hv', hrow', -⟩, ⟨⟨bL6, hr6⟩, bO6, B46⟩, ⟨hBW6, hKF6⟩, hK6⟩
     rw [hzs] at hrow'
     obtain ⟨Ai, qi, ei⟩ := Kd.R_slice (row_R hrow')
     subst ei
     have HVI := Kd.R_reads' (row_R hrow')
     rw [hn1] at HVI
     have HVI := Aside0.mk HVI
     have HWI := Aside0.mk (Kd.C_below hW (hB3.trans hBW6))
     have hcI := hv'.cell
     rw [hn1] at hcI
     have hcO := bO6.cell
     have hcW := B46.2.1.cell
     have HB46 := Aside0.mk B46
     have HBO := Aside0.mk bO6
     clear hzs hrow' hv' B46 bO6
     gi_wp2_with (gi_at_call 20; refine (CallsIn.inRound l (hse _ _ _ _ (same_quiet (l := es) HVI.out.2.2 HVI.out.2.1 HWI.out hcw (by omega)))).mono ?_; rintro e w'' ⟨rfl, kq, rfl⟩; (have cO2 : (Wn.drewN kq).cell? ⟨b + 1, 0, none⟩ = some (.bool true) := HBO.out.cell); (have fO2 : (Wn.drewN kq).frozen? ⟨b + 1, 0, none⟩ = false := HBO.out.frozen))
     have hKd : KeepsOthers Wn (Wn.drewN kq) := ⟨Nat.le_refl _, fun _ _ h _ => h⟩
     exact ⟨(hKF6.trans (hKd.from _)).trans ((KeepsOthers.setCell _ _ _).from _), (pw_below_drewN hBW6 kq).setCell (p := ⟨b + 1, 0, none⟩) (by show w.heap.size ≤ b + 1; omega) _, ⟨⟨_, (show Boxed (Wn.drewN kq) b 25 (.slice (some ⟨g', 0, none⟩) (k + 1) cap') from bL6).other (by omega) _, by rw [hkz.out, HFM.out]; exact World.ownsRow.kept (show (Wn.drewN kq).ownsRow w.heap.size 30 4 (.slice (some ⟨g', 0, none⟩) (k + 1) cap') (k + 1) (pre.flatMap cE ++ cE x) from hr6) (grownBy_setCell' _ _ _) (.inr (Ne.symm (HBO.out.not_row (by decide) hr6))), trivial⟩, (show Boxed (Wn.drewN kq) (b + 1) 4 (.bool true) from HBO.out).set _, (HB46.out.drewN kq).set (b + 1) (by omega) _⟩, (pw_below_drewN (hB3.trans hBW6) kq).setCell (p := ⟨b + 1, 0, none⟩) (by show w.heap.size ≤ b + 1; omega) _, (KeepsOthers.setCell _ _ _).same D1 _ (show (Wn.drewN kq).heap[D1]? = _ from hK6) rfl⟩
    case stop3 =>
     rintro c' pre' Wn _ h
     exact h.elim
   ·have z1 : decide ((k : Int) + 1 ≤ 2) = false := decide_eq_false hq2
    clear hq2
    gi_wp2_with (gi_at_builtin; go_must (refine wpListIn_append_own _ rfl _ _ 25 rfl w.heap.size 30 i0 _ 4 48 Tryd.underlying25 hi hz0 hz1 hz2 rfl (by decide) _ _ _ rfl (hrow.alloc _) ⟨W.heap.size, 0, none⟩ 1 1 (cE x) rfl rfl HC4 HO4 (show k + 1 ≤ 9223372036854775807 by omega) (by omega) (by have := hB3.size; simp; omega) ?_); intro v' w1 hown' hgrow _; obtain ⟨g', cap', rfl⟩ := ownsRow_succ hown'; (have B44 := ((HB43.out.alloc (.cells #[.string x.f0, .int .u64 x.f1, .bool x.f2, .string x.f3] 30)).row (hrow.alloc _) hgrow).set b (by omega) (.slice (some ⟨g', 0, none⟩) (k + 1) cap')); (have bO4 := ((bO3.alloc (.cells #[.string x.f0, .int .u64 x.f1, .bool x.f2, .string x.f3] 30)).kept hgrow (bO3.not_row (by decide) hrow)).other (B' := b) (by omega) (.slice (some ⟨g', 0, none⟩) (k + 1) cap')); obtain ⟨hv1, hv2, hr2, hk2, hb2⟩ := hv.appended (by decide) hrow hB3.size (by omega) hown' hgrow; (have hK4 := hk2.same D1 _ HK3.out rfl); have hc1 := hv1.cell; have hf1 := hv1.frozen; have hc2 := hv2.cell; (have hc7q := (B44.alloc (.cells #[.slice none 0 0] 25)).2.2.2.cell))
    exact ⟨hk2.from _, hb2, ⟨⟨_, hv2, by rw [hkz.out, HFM.out]; exact hr2, trivial⟩, bO4, B44⟩, hB3.trans hb2, hK4⟩
  case doneT =>
   rintro D2 zs W hD2 hzs ⟨⟨⟨v, hv, hrow, -⟩, bO3, B43⟩, hB3, hK3⟩ hKD
   rw [hzs] at hrow
   obtain ⟨Al, ql, el⟩ := Kd.R_slice (row_R hrow)
   subst el
   have HVL := Kd.R_reads' (row_R hrow)
   rw [hn1] at HVL
   have HVL := Aside0.mk HVL
   have HWL := Aside0.mk (Kd.C_below hW hB3)
   have hcL := hv.cell
   rw [hn1] at hcL
   have hcO := bO3.cell
   have hcW := B43.2.1.cell
   have HBl := Aside0.mk hB3
   have HK3 := Aside0.mk hK3
   have HKD := Aside0.mk hKD
   clear hzs hrow hv B43 bO3 hB3 hK3 hKD
   gi_wp2_with (gi_at_call 20; refine (hse _ _ _ _ (same_quiet (l := es) HVL.out.2.2 HVL.out.2.1 HWL.out hcw (by omega))).mono ?_; rintro e w'' ⟨rfl, kq, rfl⟩)
   have hKd2 : (W.drewN kq).heap[D2]? = some (.deferred (some [])) := HKD.out
   have hne : D1 ≠ D2 := by omega
   have hKd1 : ((W.drewN kq).putObj D2 (.deferred none)).heap[D1]? = some (.deferred (some [])) := (World.putObj_heap_other hne).trans HK3.out
   refine ⟨by simp, .inl ⟨_, _, rfl, run_takeDeferred hKd2, ?_⟩⟩
   refine ⟨by simp, .inl ⟨_, _, rfl, run_takeDeferred hKd1, ?_⟩⟩
   exact ⟨_, results_tmp rfl _ _ _, rfl, ((pw_below_drewN HBl.out kq).trans (belowK_b (w := w) (Nat.le_refl _) _ D2 _ _ (by omega) hKd2 rfl rfl)).trans (belowK_b (w := w) (Nat.le_refl _) _ D1 _ _ (by omega) hKd1 rfl rfl)⟩
  case stopT =>
   rintro D2 c pre W hD2 hpre h _
   exact h.elim
end Go.Proofs.YtaonjmkfbfhanaaDoor.Bk
namespace Go.Proofs.YtaonjmkfbfhanaaDoor.Bk
open Go.RowKit Go.Proofs.YtaonjmkfbfhanaaDoorW.PrintWords Go.Proofs.YtaonjmkfbfhanaaDoor.Own Go.Proofs.YtaonjmkfbfhanaaDoor.G Go.Proofs.YtaonjmkfbfhanaaDoor.Wk Go.Proofs.YtaonjmkfbfhanaaDoor.QBo Go.Proofs.YtaonjmkfbfhanaaDoor.Rf Go.Proofs.YtaonjmkfbfhanaaDoor.Tn
set_option linter.unusedVariables false
theorem again_calls (gk n1 c1 : Nat) (A : Option Addr) (es : List En) (q : Int) (Aw : Option Addr) (cw : Nat) (w : World) (hn1 : es.length = n1) (hl : n1 ≤ 1000000000) (hgk : w.cell? ⟨gk, 0, none⟩ = some (.slice A n1 c1)) (hC : Kd.C kE w A n1 es) (hW : Kd.C kE w Aw n1 es) (hcw : n1 ≤ cw) :
    Calls Tryd.prog 30 #[.pointer (some ⟨gk, 0, none⟩), .int .i64 q, .slice Aw n1 cw] w fun e W' => e = .returned (.bool true) ∧ Below w.heap.size w W' :=
  (callsIn_wide (n := 9)).1 (again_in trivial trivial trivial trivial rfl (fun m args w R h => callsIn_wide.2 h) gk n1 c1 A es q Aw cw w hn1 hl hgk hC hW hcw)
set_option maxHeartbeats 16000000 in
set_option maxRecDepth 100000 in
theorem anew_calls {w : World} {A : Option Addr} {n c : Nat} {b : List Int} (hR : Rd (Kd.int .u8) w A n c b) (hb : Bytes b) (hl : b.length ≤ 1000000) (hT : GT w) :
    Calls Tryd.prog 29 #[.slice A n c] w fun e w' => e = .returned (.bool true) ∧ Below w.heap.size w w' := by
  have hbn : b.length = n := hR.1
  subst hbn
  have HD := Aside0.mk hR
  have HBB := Aside0.mk hb
  have HT := Aside0.mk hT
  have PL : Aside0 ((0 + b.length) * 1 ≤ 140737488355328) := ⟨by omega⟩
  have HRw := Aside0.mk (Below.refl w.heap.size w)
  clear hR hb hT
  go_enter Tryd.func29, Tryd.ntmps29
  go_wp2_with (first
    | ((with_reducible refine gate_dst (N := 8) rfl ?_); go_must (refine Kd.R_lit (Kd.int .u8) w.heap.size 5 ?hg (N := 8) ?hd (xs := ([] : List Int)) (inner := []) (ok := fun _ => True) (okp := fun _ => True) ?hr ?hp (fun _ hk => hk) trivial HRw.out (Nat.le_refl _) (by simp) ?_); (case hd => rfl); (case hg => rfl); (case hr => first | (go_simp; done) | (go_simp; rfl)); (case hp => exact Reps.none _ _); intro v1 w1 ho hb hg_ hn_; (have HO1 := Aside0.mk ho); (have HBa := Aside0.mk hb); clear ho hb hg_ hn_)
    | ((with_reducible refine gate_builtin (b := .append) (xs := #[.tmp 8, .tmp 9]) rfl ?_); at_builtin; go_must (refine Kd.R_append_rows (Kd.int .u8) (w0 := w) w.heap.size rfl (.tmp 8) (.tmp 9) 22 5 (.int .u8 0) 1 rfl Tryd.underlying22 infoU rfl (by decide) (by omega) v1 ([] : List Int) b _ _ _ (fun _ => True) (fun _ => False) rfl rfl ?aO ?aR (fun _ _ h => h) (fun _ h => h.elim) (fun _ _ => trivial) HBa.out HBa.out.size ?aL ?_); (case aR => exact Kd.C_below HD.out.2.2 HBa.out); (case aO => exact HO1.out); (case aL => exact PL.out); intro v2 w2 ho hb hg_ hn_; (obtain ⟨A5, q5, e5⟩ := Kd.R_slice ho); subst e5; (have HO2 := Aside0.mk ho); (have HB2 := Aside0.mk hb); clear ho hb hg_ hn_))
  rw [List.nil_append] at HO2
  have HD2 : Aside0 (Rd (Kd.int .u8) w2 A5 b.length q5 b) := ⟨Rd.of_own HO2.out⟩
  have HDa := Aside0.mk (HD.out.step HB2.out)
  obtain ⟨r, hr⟩ : ∃ r, openB b = r := ⟨_, rfl⟩
  have HOp := Aside0.mk (open_calls HDa.out HBB.out (by omega) (HT.out.below HB2.out))
  rw [hr] at HOp
  have HQ := Aside0.mk hr
  clear hr
  cases r with
  | none =>
    go_wp2_with fail
    refine HOp.out.mono ?_
    rintro en W4 ⟨he, hb4⟩
    have he' : en = .returned (.tuple #[.pointer none, .int .i64 91]) := he
    subst he'
    have HB4 := Aside0.mk (below_step HB2.out hb4)
    have HD4 := Aside0.mk (HD2.out.step hb4)
    clear hb4 he
    go_wp2_with fail
    have HOr := Aside0.mk (refOpen_calls HD4.out HBB.out (by omega))
    rw [HQ.out] at HOr
    refine HOr.out.mono ?_
    rintro en W5 ⟨⟨v5, rfl⟩, hb5⟩
    have HB5 := Aside0.mk (below_step HB4.out hb5)
    have HD5 := Aside0.mk (HD4.out.step hb5)
    have HDi := Aside0.mk (HD.out.step HB5.out)
    clear hb5
    go_wp2_with fail
    refine (same_calls HDi.out HD5.out (by omega)).mono ?_
    rintro en W6 ⟨he6, hb6⟩
    rw [decide_eq_true rfl] at he6
    subst he6
    have HB6 := Aside0.mk (below_step HB5.out hb6)
    clear hb6
    go_wp2_with fail
    refine (num_calls 91 W6).mono ?_
    rintro en WZ ⟨rfl, rfl⟩
    go_wp2_with fail
    refine (num_calls 91 _).mono ?_
    rintro en WZ2 ⟨rfl, rfl⟩
    go_wp2_with fail
    go_ret
    exact ⟨rfl, HB6.out⟩
  | some LR =>
    obtain ⟨L, R⟩ := LR
    obtain ⟨hLn, hLe⟩ := readB_all HBB.out (open_read HQ.out)
    clear hLe
    go_wp2_with fail
    refine HOp.out.mono ?_
    rintro en W4 ⟨⟨gk, rfl, hK⟩, hb4⟩
    have HB4 := Aside0.mk (below_step HB2.out hb4)
    have HD4 := Aside0.mk (HD2.out.step hb4)
    have HK := Aside0.mk hK
    clear hb4 hK
    go_wp2_with fail
    have HOr := Aside0.mk (refOpen_calls HD4.out HBB.out (by omega))
    rw [HQ.out] at HOr
    refine HOr.out.mono ?_
    rintro en W5 ⟨⟨v5, rfl, hr5⟩, hb5⟩
    obtain ⟨A7, q7, e7⟩ := Kd.R_slice hr5
    subst e7
    have HB5 := Aside0.mk (below_step HB4.out hb5)
    have HD5 := Aside0.mk (HD4.out.step hb5)
    have HDi := Aside0.mk (HD.out.step HB5.out)
    have HK5 := Aside0.mk (HK.out.step hb5)
    have HR5 := Aside0.mk (Kd.R_reads' hr5)
    clear hb5 hr5
    go_wp2_with fail
    refine (same_calls HDi.out HD5.out (by omega)).mono ?_
    rintro en W6 ⟨he6, hb6⟩
    rw [decide_eq_true rfl] at he6
    subst he6
    have HB6 := Aside0.mk (below_step HB5.out hb6)
    have HK6 := Aside0.mk (HK5.out.step hb6)
    have HW6 := Aside0.mk (Kd.C_below HR5.out.2.2 hb6)
    clear hb6
    go_wp2_with fail
    refine (num_calls 0 W6).mono ?_
    rintro en WZ ⟨rfl, rfl⟩
    go_wp2_with fail
    obtain ⟨Ak, nk, ck, k1, k2, k3⟩ := HK6.out
    obtain ⟨j1, j2, j3⟩ := Kd.R_reads' k3
    have hkc : WZ.cell? ⟨gk, 0, none⟩ = some (.slice Ak nk ck) := by rw [blk_cell k1]; rfl
    have HGv := Aside0.mk (given_calls gk nk ck Ak L (-1) WZ (by omega) hkc (by rw [j1]; exact j3))
    rw [givenAll] at HGv
    clear k1 k2 k3 hkc j2 j3
    refine HGv.out.mono ?_
    rintro en W8 ⟨v8, rfl, hr8, hb8⟩
    obtain ⟨A8, q8, e8⟩ := Kd.R_slice hr8
    subst e8
    have HR8 := Aside0.mk (Kd.R_reads' hr8)
    have HB8 := Aside0.mk (below_step HB6.out hb8)
    have HW8 := Aside0.mk (Kd.C_below HW6.out hb8)
    clear hr8 hb8
    go_wp2_with fail
    refine (sameEntries_calls (l := L) HR8.out.2.2 HR8.out.2.1 HW8.out HR5.out.2.1 (by omega)).mono ?_
    rintro en W9 ⟨rfl, hb9⟩
    have HB9 := Aside0.mk (below_step HB8.out hb9)
    clear hb9
    go_wp2_with fail
    go_ret
    exact ⟨rfl, HB9.out⟩
end Go.Proofs.YtaonjmkfbfhanaaDoor.Bk
namespace Go.Proofs.YtaonjmkfbfhanaaDoor.Room
open Go.RowKit Go.Proofs.YtaonjmkfbfhanaaDoorW.PrintWords Go.Proofs.YtaonjmkfbfhanaaDoor.Own
set_option linter.unusedVariables false
theorem info_u8 : (Tryd.prog.info? 5).map (fun i => (i.zero, i.size, i.bytes)) = some (some (.int .u8 0), 1, 1) := by kernel_rfl
theorem info_int : (Tryd.prog.info? 3).map (fun i => (i.zero, i.size, i.bytes)) = some (some (.int .i64 0), 1, 8) := by kernel_rfl
theorem info_bytes : (Tryd.prog.info? 22).map (fun i => (i.zero, i.size, i.bytes)) = some (some (.slice none 0 0), 1, 24) := by kernel_rfl
def lotb (k : Nat) : Int := if k % 2 = 0 then 235 else 234
def loti (k : Nat) : Int := if k % 2 = 0 then -7701 else -7702
theorem lot_calls (k : Nat) (w : World) (hk : k ≤ 9223372036854775807) : Calls Tryd.prog 81 #[.int .i64 (k : Int)] w fun e w' => e = .returned (.int .i64 (loti k)) ∧ w' = w := by
  by_cases h : k % 2 = 0
  · have h1 : ((k : Int) % 2 == 0) = true := by rw [beq_iff_eq]; omega
    have h2 : loti k = -7701 := by simp [loti, h]
    rw [h2]
    clear h h2
    go_enter Tryd.func81, Tryd.ntmps81
    go_wp2
    go_ret
    exact ⟨rfl, rfl⟩
  · have h1 : ((k : Int) % 2 == 0) = false := by rw [beq_eq_false_iff_ne]; omega
    have h2 : loti k = -7702 := by simp [loti, h]
    rw [h2]
    clear h h2
    go_enter Tryd.func81, Tryd.ntmps81
    go_wp2
    go_ret
    exact ⟨rfl, rfl⟩
theorem lot_byte (k : Nat) : loti k % 256 = lotb k := by
  unfold loti lotb
  split <;> rfl
structure Ent where
  b : Nat
  n : Nat
  cap : Nat
def EntOk (W : World) (e : Ent) : Prop := ∃ cur : Array Value, W.heap[e.b]? = some (.cells cur 5 (0, 0)) ∧ e.n + 600 ≤ cur.size ∧ e.n + 600 ≤ e.cap ∧ e.n ≤ 140737488351232 ∧ ∀ k, k < 600 → cur[e.n + k]? = some (.int .u8 (lotb k))
def roomCells (va vb : Value) : Array Value := #[va, vb, .slice none 0 0, .slice none 0 0, .slice none 0 0, .slice none 0 0, .slice none 0 0, .slice none 0 0, .slice none 0 0, .slice none 0 0, .slice none 0 0, .slice none 0 0, .slice none 0 0, .slice none 0 0, .slice none 0 0, .slice none 0 0, .slice none 0 0, .slice none 0 0, .slice none 0 0, .slice none 0 0, .slice none 0 0, .slice none 0 0, .slice none 0 0, .slice none 0 0, .slice none 0 0, .slice none 0 0, .slice none 0 0, .slice none 0 0]
def entVal (e : Ent) : Value := .slice (some ⟨e.b, 0, none⟩) (e.n + 600) e.cap
def entNum (e : Ent) : Value := .int .i64 (e.n : Int)
def RoomB (W : World) (base : Nat) (F : Nat → Prop) (g : Nat) (es : List Ent) : Prop :=
  ∃ va vb : Value, W.heap[g]? = some (.cells (roomCells va vb) 79 (0, 0)) ∧ F g ∧ (∀ k, F k → base ≤ k) ∧ (∀ k, va.ownBlock = some k → F k) ∧ (∀ k, vb.ownBlock = some k → F k) ∧
    W.ownsRow base 22 1 va es.length (es.map entVal) ∧ W.ownsRow base 3 1 vb es.length (es.map entNum) ∧ (∀ e ∈ es, EntOk W e)
theorem EntOk.below {W W' : World} {e : Ent} (h : EntOk W e) (hb : Below W.heap.size W W') : EntOk W' e := by
  obtain ⟨cur, h1, h2⟩ := h
  exact ⟨cur, (hb.block _ (blk_lt h1)).trans h1, h2⟩
theorem RoomB.below {W W' : World} {base : Nat} {F : Nat → Prop} {g : Nat} {es : List Ent} (h : RoomB W base F g es) (hb : Below W.heap.size W W') : RoomB W' base F g es := by
  obtain ⟨va, vb, h1, h2, h3, h4, h5, h6, h7, h8⟩ := h
  exact ⟨va, vb, (hb.block _ (blk_lt h1)).trans h1, h2, h3, h4, h5, pw_own_below h6 hb, pw_own_below h7 hb, fun e he => (h8 e he).below hb⟩
theorem RoomB.drewN {W : World} {base : Nat} {F : Nat → Prop} {g : Nat} {es : List Ent} (h : RoomB W base F g es) (n : Nat) : RoomB (W.drewN n) base F g es := h
end Go.Proofs.YtaonjmkfbfhanaaDoor.Room
namespace Go.Proofs.YtaonjmkfbfhanaaDoor.Room
open Go.RowKit Go.Proofs.YtaonjmkfbfhanaaDoorW.PrintWords Go.Proofs.YtaonjmkfbfhanaaDoor.Own
set_option linter.unusedVariables false
def marks (k : Nat) : List Int := (List.range k).map lotb
theorem marks_succ (k : Nat) : marks (k + 1) = marks k ++ [lotb k] := by simp [marks, List.range_succ]
def RowAt (W : World) (b : Nat) (l : List Int) : Prop := ∃ cur : Array Value, W.heap[b]? = some (.cells cur 5 (0, 0)) ∧ ∀ j, j < l.length → cur[j]? = some (.int .u8 (l.getD j 0))
theorem RowAt.reads {W : World} {b : Nat} {l : List Int} (h : RowAt W b l) (hl : l.length ≤ 140737488351232) : Kd.C (Kd.int .u8) W (some ⟨b, 0, none⟩) l.length l := by
  obtain ⟨cur, h1, h2⟩ := h
  refine Kd.C_of_reads (enc := Value.int .u8) (d := (0 : Int)) (h1 := fun _ => rfl) ⟨rfl, by omega, fun _ => ⟨_, rfl, fun j hj => ?_⟩⟩
  rw [add_plain, cell_of_row W b j cur _ (0, 0) h1]
  exact h2 j hj
theorem RowAt.below {W W' : World} {b : Nat} {l : List Int} (h : RowAt W b l) (hb : Below W.heap.size W W') : RowAt W' b l := by
  obtain ⟨cur, h1, h2⟩ := h
  exact ⟨cur, (hb.block _ (blk_lt h1)).trans h1, h2⟩
def LayPost (w : World) (base : Nat) (F : Nat → Prop) (g : Nat) (es : List Ent) (l0 : List Int) (e : Ending) (w' : World) : Prop :=
  ∃ b cap, e = .returned (.slice (some ⟨b, 0, none⟩) l0.length (l0.length + 600)) ∧ w.heap.size ≤ b ∧ RoomB w' base (fun k => F k ∨ w.heap.size ≤ k ∧ k ≠ b) g (es ++ [⟨b, l0.length, cap⟩]) ∧ RowAt w' b l0 ∧ Below base w w' ∧ (∀ k, k < w.heap.size → ¬ F k → w'.heap[k]? = w.heap[k]?)
theorem setCell_block {W : World} {g j : Nat} {u : Value} {k : Nat} (h : k ≠ g) : (W.setCell ⟨g, j, none⟩ u).heap[k]? = W.heap[k]? := Below.heap_setCell W ⟨g, j, none⟩ u k h
theorem lay_done {w wr w4 w5 : World} {base : Nat} {F : Nat → Prop} {g : Nat} {es : List Ent} {va vb v4 v5 : Value} {b cap : Nat} {cur : Array Value} {l0 : List Int} (hlen : l0.length ≤ 140737488351232)
    (hg : w.heap[g]? = some (.cells (roomCells va vb) 79 (0, 0))) (hFg : F g) (hFb : ∀ k, F k → base ≤ k) (hFa : ∀ k, va.ownBlock = some k → F k) (hFv : ∀ k, vb.ownBlock = some k → F k)
    (oa : w.ownsRow base 22 1 va es.length (es.map entVal)) (ob : w.ownsRow base 3 1 vb es.length (es.map entNum)) (hes : ∀ e ∈ es, EntOk w e)
    (hB : Below w.heap.size w wr) (hbw : w.heap.size ≤ b) (hrow : wr.heap[b]? = some (.cells cur 5 (0, 0))) (hsz : cur.size = cap) (hcap : l0.length + 600 ≤ cap)
    (hcur : ∀ j, j < l0.length → cur[j]? = some (.int .u8 (l0.getD j 0))) (hmk : ∀ k, k < 600 → cur[l0.length + k]? = some (.int .u8 (lotb k)))
    (o4 : w4.ownsRow base 22 1 v4 (es.length + 1) (es.map entVal ++ [.slice (some ⟨b, 0, none⟩) (l0.length + 600) cap])) (g4 : wr.grownBy w4 va.ownBlock) (a4 : v4.ownBlock = va.ownBlock ∨ ∃ q, v4.ownBlock = some q ∧ wr.heap.size ≤ q)
    (o5 : w5.ownsRow base 3 1 v5 (es.length + 1) (es.map entNum ++ [.int .i64 (l0.length : Int)])) (g5 : (w4.setCell ⟨g, 0, none⟩ v4).grownBy w5 vb.ownBlock) (a5 : v5.ownBlock = vb.ownBlock ∨ ∃ q, v5.ownBlock = some q ∧ (w4.setCell ⟨g, 0, none⟩ v4).heap.size ≤ q) :
    LayPost w base F g es l0 (.returned (.slice (some ⟨b, 0, none⟩) l0.length (l0.length + 600))) (w5.setCell ⟨g, 1, none⟩ v5) := by
  have hgw := blk_lt hg
  have hbr := blk_lt hrow
  have hgb : g ≠ b := by omega
  have sz4 := g4.size
  have szr := hB.size
  have sz5 : w4.heap.size ≤ w5.heap.size := by have := g5.size; simpa [World.setCell] using this
  have hgr : wr.heap[g]? = some (.cells (roomCells va vb) 79 (0, 0)) := (hB.block _ hgw).trans hg
  have oar := pw_own_below oa hB
  have obr := pw_own_below ob hB
  have nga : some g ≠ va.ownBlock := own_ne oar hgr (by decide)
  have ngb : some g ≠ vb.ownBlock := own_ne obr hgr (by decide)
  have g4h : w4.heap[g]? = some (.cells (roomCells va vb) 79 (0, 0)) := blk_grown hgr g4 nga
  have g4s := blk_set g4h 0 v4
  have g5h : w5.heap[g]? = _ := blk_grown g4s g5 ngb
  have g5s := blk_set g5h 1 v5
  have lta : ∀ k, va.ownBlock = some k → k < w.heap.size := fun k hk => own_lt oa k hk
  have ltb : ∀ k, vb.ownBlock = some k → k < w.heap.size := fun k hk => own_lt ob k hk
  -- a block that is none of the room's own stays, from wr on
  have keep : ∀ k, k < wr.heap.size → k ≠ g → some k ≠ va.ownBlock → some k ≠ vb.ownBlock → (w5.setCell ⟨g, 1, none⟩ v5).heap[k]? = wr.heap[k]? := by
    intro k hk hkg hka hkb
    rw [setCell_block hkg, g5.block k (by simp [World.setCell]; omega) hkb, setCell_block hkg, g4.block k hk hka]
  have oth : ∀ k o, wr.heap[k]? = some o → k ≠ g → some k ≠ va.ownBlock → some k ≠ vb.ownBlock → (w5.setCell ⟨g, 1, none⟩ v5).heap[k]? = some o := fun k o h h1 h2 h3 => (keep k (blk_lt h) h1 h2 h3).trans h
  have hba : some b ≠ va.ownBlock := fun h => by have := lta b h.symm; omega
  have hbb : some b ≠ vb.ownBlock := fun h => by have := ltb b h.symm; omega
  have hb' := oth b _ hrow (Ne.symm hgb) hba hbb
  refine ⟨b, cap, rfl, hbw, ⟨v4, v5, ?_, .inl hFg, ?_, ?_, ?_, ?_, ?_, ?_⟩, ⟨cur, hb', hcur⟩, ⟨?_, ?_, ?_, ?_, ?_⟩, ?_⟩
  · rw [g5s]; rfl
  · rintro k (hk | ⟨hk, _⟩)
    · exact hFb k hk
    · have := hFb g hFg; omega
  · intro k hk
    rcases a4 with h | ⟨q, h, hq⟩
    · exact .inl (hFa k (h ▸ hk))
    · rw [h] at hk
      obtain rfl := Option.some.inj hk
      exact .inr ⟨by omega, by omega⟩
  · intro k hk
    rcases a5 with h | ⟨q, h, hq⟩
    · exact .inl (hFv k (h ▸ hk))
    · rw [h] at hk
      obtain rfl := Option.some.inj hk
      have : w4.heap.size ≤ q := by simpa [World.setCell] using hq
      exact .inr ⟨by omega, by omega⟩
  · have n4 : some g ≠ v4.ownBlock := own_ne o4 g4h (by decide)
    have o4s := own_setCell (p := ⟨g, 0, none⟩) o4 n4 v4
    have obs : (w4.setCell ⟨g, 0, none⟩ v4).ownsRow base 3 1 vb es.length (es.map entNum) := own_setCell (p := ⟨g, 0, none⟩) (own_other obr g4 (own_type_ne obr oar (by decide))) ngb v4
    have o45 := own_other o4s g5 (own_type_ne o4s obs (by decide))
    have n45 : some g ≠ v4.ownBlock := n4
    have := own_setCell (p := ⟨g, 1, none⟩) o45 n45 v5
    simpa [entVal] using this
  · have n5 : some g ≠ v5.ownBlock := own_ne o5 g5h (by decide)
    have := own_setCell (p := ⟨g, 1, none⟩) o5 n5 v5
    simpa [entNum] using this
  · intro e he
    rcases List.mem_append.1 he with he | he
    · obtain ⟨cu, h1, h2⟩ := (hes e he).below hB
      exact ⟨cu, oth _ _ h1 (blk_ne h1 hgr (by decide)) (fun h => own_ne oar h1 (by decide) h) (fun h => own_ne obr h1 (by decide) h), h2⟩
    · obtain rfl : e = ⟨b, l0.length, cap⟩ := by simpa using he
      exact ⟨cur, hb', by simpa [hsz] using hcap, hcap, hlen, hmk⟩
  · simp [World.setCell, g5.os, g4.os, hB.os]
  · simp [World.setCell, g5.tape, g4.tape, hB.tape]
  · simp [World.setCell, g5.output, g4.output, hB.output]
  · simp [World.setCell]; omega
  · intro k hk
    have : ¬ F k → _ := fun h => h
    by_cases hkw : k < w.heap.size
    · exact (keep k (by omega) (by rintro rfl; have := hFb _ hFg; omega) (fun h => by have := hFb k (hFa k h.symm); omega) (fun h => by have := hFb k (hFv k h.symm); omega)).trans (hB.block k hkw)
    · have := hFb g hFg; omega
  · intro k hk hF
    exact (keep k (by omega) (by rintro rfl; exact hF hFg) (fun h => hF (hFa k h.symm)) (fun h => hF (hFv k h.symm))).trans (hB.block k hk)
set_option maxHeartbeats 1000000 in
set_option maxRecDepth 100000 in
theorem layBytes_calls (A0 : Option Addr) (c0 : Nat) (l0 : List Int) (w : World) (base : Nat) (F : Nat → Prop) (g : Nat) (es : List Ent) (hR : RoomB w base F g es) (hes : es.length ≤ 1000)
    (hr0 : Kd.C (Kd.int .u8) w A0 l0.length l0) (hc0 : l0.length ≤ c0) (hlen : l0.length ≤ 140737488351232) :
    Calls Tryd.prog 49 #[.pointer (some ⟨g, 0, none⟩), .slice A0 l0.length c0, .int .i64 600] w (LayPost w base F g es l0) := by
  have HR0 := Aside0.mk hr0
  have HR := Aside0.mk hR
  have HB := Aside0.mk (Below.refl w.heap.size w)
  clear hr0 hR
  go_enter Tryd.func49, Tryd.ntmps49
  go_wp2_with (first
    | ((with_reducible refine gate_dst (N := 9) rfl ?_); go_must (refine Kd.R_lit (Kd.int .u8) w.heap.size 5 ?hg (N := 9) ?hd (xs := ([] : List Int)) (inner := []) (ok := fun _ => True) (okp := fun _ => True) ?hr ?hp (fun _ hk => hk) trivial HB.out (Nat.le_refl _) (by simp) ?_); (case hd => rfl); (case hg => rfl); (case hr => first | (go_simp; done) | (go_simp; rfl)); (case hp => exact Reps.none _ _); intro v1 w1 ho hb hg_ hn_; clear HB; (have HO1 := Aside0.mk ho); (have HB := Aside0.mk hb); clear ho hb hg_ hn_)
    | ((with_reducible refine gate_builtin (b := .append) (xs := #[.tmp 10, .tmp 11]) rfl ?_); at_builtin; go_must (refine Kd.R_append_rows (Kd.int .u8) (w0 := w) w.heap.size rfl (.tmp 10) (.tmp 11) 22 5 (.int .u8 0) 1 rfl Tryd.underlying22 info_u8 rfl (by decide) (by omega) v1 ([] : List Int) l0 _ _ _ (fun _ => True) (fun _ => False) rfl rfl ?aO ?aR (fun _ _ h => h) (fun _ h => h.elim) (fun _ _ => trivial) HB.out HB.out.size ?aL ?_); (case aR => exact Kd.C_below HR0.out HB.out); (case aO => exact HO1.out); (case aL => simp; omega); intro v2 w2 ho hb hg_ hn_; clear HB HO1; (have HO2 := Aside0.mk ho); (have HB := Aside0.mk hb); clear ho hb hg_ hn_))
  go_loopw [7, 8] (fun v i wr => ∃ k : Nat, k ≤ 600 ∧ i = .int .i64 k ∧ Aside0 (Kd.R (Kd.int .u8) 5 wr w.heap.size (fun _ => True) v (l0 ++ marks k)) ∧ Aside0 (Below w.heap.size w wr)) (fun _ i _ => 600 - (intOf i).toNat)
  case atStart => exact ⟨0, by omega, rfl, ⟨by have := HO2.out; simpa [marks] using this⟩, HB⟩
  case round =>
    clear HB HO2
    obtain ⟨k, hk, rfl, HO, HB⟩ := hrel
    by_cases hlt : k < 600
    · have HM := Aside0.mk (marks_succ k)
      have HL := Aside0.mk (lot_byte k)
      have HLEN := Aside0.mk (show (l0 ++ marks k).length = l0.length + k by simp [marks])
      go_wp2_with (first
        | (go_at_call 81; go_must (refine (lot_calls k _ (by omega)).mono ?_); rintro e w' ⟨rfl, rfl⟩)
        | ((with_reducible refine gate_builtin (b := .append) (xs := #[.tmp 18, .tmp 22]) rfl ?_); at_builtin; go_must (refine Kd.R_append (Kd.int .u8) (w0 := w) w.heap.size rfl (.tmp 18) (.tmp 22) 22 5 (.int .u8 0) 1 rfl Tryd.underlying22 info_u8 rfl (by decide) (by omega) _ (l0 ++ marks k) (loti k % 256) [.int .u8 (loti k % 256)] (fun _ => True) (fun _ => False) rfl rfl rfl (fun _ hk => hk.elim) (fun _ _ => trivial) HO.out HB.out HB.out.size ?aL ?_); (case aL => have := HLEN.out; omega); intro v3 w3 ho hb hg_ hn_; rw [HL.out] at ho; clear HB HO; (have HO3 := Aside0.mk ho); (have HB := Aside0.mk hb); clear ho hb hg_ hn_))
      go_roundw
      case rel => exact ⟨k + 1, by omega, by go_num, ⟨by rw [HM.out, ← List.append_assoc]; exact HO3.out⟩, HB⟩
      case measure => simp [intOf]; omega
    · obtain rfl : k = 600 := by omega
      have HOW := Aside0.mk (Kd.own_of_R (enc := Value.int .u8) (h1 := fun _ => rfl) HO.out)
      obtain ⟨b, cap, cur, rfl, hbw, hrow, hn, hcm, hsz, htk⟩ : ∃ b cap cur, u7 = .slice (some ⟨b, 0, none⟩) (l0.length + 600) cap ∧ w.heap.size ≤ b ∧ wr.heap[b]? = some (.cells cur 5 (0, 0)) ∧ l0.length + 600 ≤ cap ∧ cap ≤ maxLen ∧ cur.size = cap ∧ cur.toList.take (l0.length + 600) = encs (Value.int .u8) (l0 ++ marks 600) := by
        have hl : (l0 ++ marks 600).length = l0.length + 600 := by simp [marks]
        rcases HOW.out.2 with ⟨_, h0⟩ | ⟨b, cap, cur, h1, h2, h3, h4, h5, h6, h7⟩
        · omega
        · rw [hl] at h1 h4 h7
          exact ⟨b, cap, cur, h1, h2, h3, h4, h5, by omega, by rw [Nat.mul_one] at h7; exact h7⟩
      have hcur : ∀ j, j < l0.length → cur[j]? = some (.int .u8 (l0.getD j 0)) := by
        intro j hj
        have := congrArg (fun l => l[j]?) htk
        simp only [List.getElem?_take, show j < l0.length + 600 by omega, if_true] at this
        rw [← Array.getElem?_toList, this, encs_get (d := (0 : Int)) _ j (by simp [marks]; omega)]
        simp [List.getD_eq_getElem?_getD, List.getElem?_append_left hj]
      have hmk : ∀ k, k < 600 → cur[l0.length + k]? = some (.int .u8 (lotb k)) := by
        intro k hk
        have := congrArg (fun l => l[l0.length + k]?) htk
        simp only [List.getElem?_take, show l0.length + k < l0.length + 600 by omega, if_true] at this
        rw [← Array.getElem?_toList, this, encs_get (d := (0 : Int)) _ _ (by simp [marks]; omega)]
        simp [List.getD_eq_getElem?_getD, marks, hk]
      have HCUR := Aside0.mk hcur
      have HMK := Aside0.mk hmk
      have HROW := Aside0.mk hrow
      have HSZ := Aside0.mk hsz
      clear hcur hmk hrow hsz htk HOW HO hk hlt
      obtain ⟨va, vb, hg, hFg, hFb, hFa, hFv, oa, ob, hes'⟩ := HR.out
      have hbase : base ≤ w.heap.size := Nat.le_trans (hFb g hFg) (Nat.le_of_lt (blk_lt hg))
      have hgr : wr.heap[g]? = some (.cells (roomCells va vb) 79 (0, 0)) := (HB.out.block _ (blk_lt hg)).trans hg
      have OA := Aside0.mk (pw_own_below oa HB.out)
      have OB := Aside0.mk (pw_own_below ob HB.out)
      have NGA := Aside0.mk (own_ne OA.out hgr (by decide))
      have NGB := Aside0.mk (own_ne OB.out hgr (by decide))
      have NAB := Aside0.mk (own_type_ne OB.out OA.out (by decide))
      have HBB := Aside0.mk (HB.out.mono hbase)
      have HGR := Aside0.mk hgr
      have hc0' : wr.cell? ⟨g, 0, none⟩ = some va := by rw [blk_cell hgr]; rfl
      have HBS := Aside0.mk (Nat.le_trans hbase HB.out.size)
      have HALL := Aside0.mk (And.intro hg (And.intro hFg (And.intro hFb (And.intro hFa (And.intro hFv (And.intro oa (And.intro ob hes')))))))
      clear hg hFg hFb hFa hFv oa ob hes' hgr hbase HR
      go_wp2_with (first
        | ((with_reducible refine gate_builtin (b := .append) (xs := #[.tmp 28, .tmp 30]) rfl ?_); at_builtin; go_must (refine print_append_cells (w0 := w) base rfl (.tmp 28) (.tmp 30) 33 22 (.slice none 0 0) 1 24 rfl Tryd.underlying33 info_bytes rfl (by decide) (by decide) va es.length (es.map entVal) [.slice (some ⟨b, 0, none⟩) (l0.length + 600) cap] rfl rfl rfl (by simp [Value.oneCell']) OA.out HBB.out HBS.out (by omega) ?_); intro v4 w4 o4 b4 g4 a4; (obtain ⟨A4, c4, e4⟩ := own_slice o4); subst e4; (have O4 := Aside0.mk o4); (have B4 := Aside0.mk b4); (have G4 := Aside0.mk g4); (have A4' := Aside0.mk a4); (have hg4 := blk_grown HGR.out g4 NGA.out); (have hc4 : w4.cell? ⟨g, 0, none⟩ = some va := by rw [blk_cell hg4]; rfl); (have hf4 : w4.frozen? ⟨g, 0, none⟩ = false := blk_frozen hg4 0); (have hc4' : (w4.setCell ⟨g, 0, none⟩ (.slice A4 (es.length + 1) c4)).cell? ⟨g, 1, none⟩ = some vb := by rw [blk_cell (blk_set hg4 0 _)]; rfl); (have HG4 := Aside0.mk hg4); clear o4 b4 g4 a4 hg4 hc0')
        | ((with_reducible refine gate_builtin (b := .append) (xs := #[.tmp 38, .tmp 41]) rfl ?_); at_builtin; go_must (refine print_append_cells (w0 := w) base rfl (.tmp 38) (.tmp 41) 64 3 (.int .i64 0) 1 8 rfl Tryd.underlying64 info_int rfl (by decide) (by decide) vb es.length (es.map entNum) [.int .i64 (l0.length : Int)] rfl (by simp [Act.eval, World.setCell]) rfl (by simp [Value.oneCell']) (own_setCell (p := ⟨g, 0, none⟩) (own_other OB.out G4.out NAB.out) NGB.out _) (B4.out.setCell (p := ⟨g, 0, none⟩) (HALL.out.2.2.1 g HALL.out.2.1) _) (Nat.le_trans HBS.out (by have := G4.out.size; simpa [World.setCell] using this)) (by omega) ?_); intro v5 w5 o5 b5 g5 a5; (obtain ⟨A5, c5, e5⟩ := own_slice o5); subst e5; (have O5 := Aside0.mk o5); (have G5 := Aside0.mk g5); (have A5' := Aside0.mk a5); (have hg5 := blk_grown (blk_set HG4.out 0 (.slice A4 (es.length + 1) c4)) g5 NGB.out); (have hc5 : w5.cell? ⟨g, 1, none⟩ = some vb := by rw [blk_cell hg5]; rfl); (have hf5 : w5.frozen? ⟨g, 1, none⟩ = false := blk_frozen hg5 1); clear o5 b5 g5 a5 hg5 hc4 hc4' hf4))
      go_ret
      obtain ⟨hg, hFg, hFb, hFa, hFv, oa, ob, hes'⟩ := HALL.out
      exact lay_done hlen hg hFg hFb hFa hFv oa ob hes' HB.out hbw HROW.out HSZ.out hn HCUR.out HMK.out O4.out G4.out A4'.out O5.out G5.out A5'.out
end Go.Proofs.YtaonjmkfbfhanaaDoor.Room
namespace Go.Proofs.YtaonjmkfbfhanaaDoor.Room
open Go.RowKit Go.Proofs.YtaonjmkfbfhanaaDoorW.PrintWords Go.Proofs.YtaonjmkfbfhanaaDoor.Own
set_option linter.unusedVariables false
theorem holdInts_empty (g : Nat) (w : World) (h : w.cell? ⟨g, 2, none⟩ = some (.slice none 0 0)) : Calls Tryd.prog 51 #[.pointer (some ⟨g, 0, none⟩)] w fun e w' => e = .returned (.bool true) ∧ w' = w := by
  go_enter Tryd.func51, Tryd.ntmps51
  go_wp2
  go_loop [3] (fun i => i = .int .i64 0) (fun _ => 0)
  case atStart => rfl
  case round =>
    obtain rfl := hrel
    go_wp2
    go_ret
    exact ⟨rfl, rfl⟩
theorem holdNums_empty (g : Nat) (w : World) (h : w.cell? ⟨g, 4, none⟩ = some (.slice none 0 0)) : Calls Tryd.prog 52 #[.pointer (some ⟨g, 0, none⟩)] w fun e w' => e = .returned (.bool true) ∧ w' = w := by
  go_enter Tryd.func52, Tryd.ntmps52
  go_wp2
  go_loop [3] (fun i => i = .int .i64 0) (fun _ => 0)
  case atStart => rfl
  case round =>
    obtain rfl := hrel
    go_wp2
    go_ret
    exact ⟨rfl, rfl⟩
theorem holdTexts_empty (g : Nat) (w : World) (h : w.cell? ⟨g, 6, none⟩ = some (.slice none 0 0)) : Calls Tryd.prog 53 #[.pointer (some ⟨g, 0, none⟩)] w fun e w' => e = .returned (.bool true) ∧ w' = w := by
  go_enter Tryd.func53, Tryd.ntmps53
  go_wp2
  go_loop [3] (fun i => i = .int .i64 0) (fun _ => 0)
  case atStart => rfl
  case round =>
    obtain rfl := hrel
    go_wp2
    go_ret
    exact ⟨rfl, rfl⟩
theorem holdEntries_empty (g : Nat) (w : World) (h : w.cell? ⟨g, 8, none⟩ = some (.slice none 0 0)) : Calls Tryd.prog 54 #[.pointer (some ⟨g, 0, none⟩)] w fun e w' => e = .returned (.bool true) ∧ w' = w := by
  go_enter Tryd.func54, Tryd.ntmps54
  go_wp2
  go_loop [3] (fun i => i = .int .i64 0) (fun _ => 0)
  case atStart => rfl
  case round =>
    obtain rfl := hrel
    go_wp2
    go_ret
    exact ⟨rfl, rfl⟩
theorem holdPairs_empty (g : Nat) (w : World) (h : w.cell? ⟨g, 10, none⟩ = some (.slice none 0 0)) : Calls Tryd.prog 55 #[.pointer (some ⟨g, 0, none⟩)] w fun e w' => e = .returned (.bool true) ∧ w' = w := by
  go_enter Tryd.func55, Tryd.ntmps55
  go_wp2
  go_loop [3] (fun i => i = .int .i64 0) (fun _ => 0)
  case atStart => rfl
  case round =>
    obtain rfl := hrel
    go_wp2
    go_ret
    exact ⟨rfl, rfl⟩
theorem holdWrites_empty (g : Nat) (w : World) (h : w.cell? ⟨g, 12, none⟩ = some (.slice none 0 0)) : Calls Tryd.prog 56 #[.pointer (some ⟨g, 0, none⟩)] w fun e w' => e = .returned (.bool true) ∧ w' = w := by
  go_enter Tryd.func56, Tryd.ntmps56
  go_wp2
  go_loop [3] (fun i => i = .int .i64 0) (fun _ => 0)
  case atStart => rfl
  case round =>
    obtain rfl := hrel
    go_wp2
    go_ret
    exact ⟨rfl, rfl⟩
theorem holdTables_empty (g : Nat) (w : World) (h : w.cell? ⟨g, 14, none⟩ = some (.slice none 0 0)) : Calls Tryd.prog 57 #[.pointer (some ⟨g, 0, none⟩)] w fun e w' => e = .returned (.bool true) ∧ w' = w := by
  go_enter Tryd.func57, Tryd.ntmps57
  go_wp2
  go_loop [3] (fun i => i = .int .i64 0) (fun _ => 0)
  case atStart => rfl
  case round =>
    obtain rfl := hrel
    go_wp2
    go_ret
    exact ⟨rfl, rfl⟩
theorem holdPlaces_empty (g : Nat) (w : World) (h : w.cell? ⟨g, 16, none⟩ = some (.slice none 0 0)) : Calls Tryd.prog 58 #[.pointer (some ⟨g, 0, none⟩)] w fun e w' => e = .returned (.bool true) ∧ w' = w := by
  go_enter Tryd.func58, Tryd.ntmps58
  go_wp2
  go_loop [3] (fun i => i = .int .i64 0) (fun _ => 0)
  case atStart => rfl
  case round =>
    obtain rfl := hrel
    go_wp2
    go_ret
    exact ⟨rfl, rfl⟩
theorem holdPlaceds_empty (g : Nat) (w : World) (h : w.cell? ⟨g, 18, none⟩ = some (.slice none 0 0)) : Calls Tryd.prog 59 #[.pointer (some ⟨g, 0, none⟩)] w fun e w' => e = .returned (.bool true) ∧ w' = w := by
  go_enter Tryd.func59, Tryd.ntmps59
  go_wp2
  go_loop [3] (fun i => i = .int .i64 0) (fun _ => 0)
  case atStart => rfl
  case round =>
    obtain rfl := hrel
    go_wp2
    go_ret
    exact ⟨rfl, rfl⟩
theorem holdChunks_empty (g : Nat) (w : World) (h : w.cell? ⟨g, 20, none⟩ = some (.slice none 0 0)) : Calls Tryd.prog 60 #[.pointer (some ⟨g, 0, none⟩)] w fun e w' => e = .returned (.bool true) ∧ w' = w := by
  go_enter Tryd.func60, Tryd.ntmps60
  go_wp2
  go_loop [3] (fun i => i = .int .i64 0) (fun _ => 0)
  case atStart => rfl
  case round =>
    obtain rfl := hrel
    go_wp2
    go_ret
    exact ⟨rfl, rfl⟩
theorem holdGroups_empty (g : Nat) (w : World) (h : w.cell? ⟨g, 22, none⟩ = some (.slice none 0 0)) : Calls Tryd.prog 61 #[.pointer (some ⟨g, 0, none⟩)] w fun e w' => e = .returned (.bool true) ∧ w' = w := by
  go_enter Tryd.func61, Tryd.ntmps61
  go_wp2
  go_loop [3] (fun i => i = .int .i64 0) (fun _ => 0)
  case atStart => rfl
  case round =>
    obtain rfl := hrel
    go_wp2
    go_ret
    exact ⟨rfl, rfl⟩
theorem holdFiles_empty (g : Nat) (w : World) (h : w.cell? ⟨g, 24, none⟩ = some (.slice none 0 0)) : Calls Tryd.prog 62 #[.pointer (some ⟨g, 0, none⟩)] w fun e w' => e = .returned (.bool true) ∧ w' = w := by
  go_enter Tryd.func62, Tryd.ntmps62
  go_wp2
  go_loop [3] (fun i => i = .int .i64 0) (fun _ => 0)
  case atStart => rfl
  case round =>
    obtain rfl := hrel
    go_wp2
    go_ret
    exact ⟨rfl, rfl⟩
theorem holdSteps_empty (g : Nat) (w : World) (h : w.cell? ⟨g, 26, none⟩ = some (.slice none 0 0)) : Calls Tryd.prog 63 #[.pointer (some ⟨g, 0, none⟩)] w fun e w' => e = .returned (.bool true) ∧ w' = w := by
  go_enter Tryd.func63, Tryd.ntmps63
  go_wp2
  go_loop [3] (fun i => i = .int .i64 0) (fun _ => 0)
  case atStart => rfl
  case round =>
    obtain rfl := hrel
    go_wp2
    go_ret
    exact ⟨rfl, rfl⟩
end Go.Proofs.YtaonjmkfbfhanaaDoor.Room
namespace Go.Proofs.YtaonjmkfbfhanaaDoor.Room
open Go.RowKit Go.Proofs.YtaonjmkfbfhanaaDoorW.PrintWords Go.Proofs.YtaonjmkfbfhanaaDoor.Own
set_option linter.unusedVariables false
theorem bytes_calls (A0 : Option Addr) (c0 : Nat) (l0 : List Int) (w : World) (base : Nat) (F : Nat → Prop) (g : Nat) (es : List Ent) (hR : RoomB w base F g es) (hes : es.length ≤ 1000)
    (hr0 : Kd.C (Kd.int .u8) w A0 l0.length l0) (hc0 : l0.length ≤ c0) (hlen : l0.length ≤ 140737488351232) :
    Calls Tryd.prog 27 #[.pointer (some ⟨g, 0, none⟩), .slice A0 l0.length c0] w (LayPost w base F g es l0) := by
  have HR0 := Aside0.mk hr0
  have HR := Aside0.mk hR
  clear hr0 hR
  go_enter Tryd.func27, Tryd.ntmps27
  go_wp2_with (go_at_call 49; go_must (refine (layBytes_calls A0 c0 l0 _ base F g es HR.out hes HR0.out hc0 hlen).mono ?_); rintro e w' ⟨b, cap, rfl, hp⟩; (have HP := Aside0.mk hp); clear hp)
  go_ret
  exact ⟨b, cap, rfl, HP.out⟩
theorem lot_calls' (a : Int) (k : Nat) (h : a = (k : Int)) (w : World) (hk : k ≤ 9223372036854775807) : Calls Tryd.prog 81 #[.int .i64 a] w fun e w' => e = .returned (.int .i64 (loti k)) ∧ w' = w := by
  subst h
  exact lot_calls k w hk
set_option maxHeartbeats 1000000 in
set_option maxRecDepth 100000 in
theorem holdBytes_calls (w : World) (base : Nat) (F : Nat → Prop) (g : Nat) (es : List Ent) (hR : RoomB w base F g es) (hes : es.length ≤ 1000) :
    Calls Tryd.prog 50 #[.pointer (some ⟨g, 0, none⟩)] w fun e w' => e = .returned (.bool true) ∧ w' = w := by
  obtain ⟨va, vb, hg, hFg, hFb, hFa, hFv, oa, ob, hes'⟩ := hR
  have HES := Aside0.mk hes'
  have hc0 : w.cell? ⟨g, 0, none⟩ = some va := by rw [blk_cell hg]; rfl
  have hc1 : w.cell? ⟨g, 1, none⟩ = some vb := by rw [blk_cell hg]; rfl
  obtain ⟨Aa, ca, ea⟩ := own_slice oa
  obtain ⟨Ab, cb, eb⟩ := own_slice ob
  subst ea eb
  have HA : Aside0 (∀ k (h : k < es.length), ∃ ad, Aa = some ad ∧ w.cell? (ad.add k) = some (entVal es[k])) := ⟨fun k h => by
    obtain ⟨q, cap, he, _, _⟩ := oa.form (by omega)
    injection he with h1 h2 h3
    exact ⟨_, h1, oa.cells (g := q) (by rw [h1]; rfl) k _ (by simp [h])⟩⟩
  have HBc : Aside0 (∀ k (h : k < es.length), ∃ ad, Ab = some ad ∧ w.cell? (ad.add k) = some (entNum es[k])) := ⟨fun k h => by
    obtain ⟨q, cap, he, _, _⟩ := ob.form (by omega)
    injection he with h1 h2 h3
    exact ⟨_, h1, ob.cells (g := q) (by rw [h1]; rfl) k _ (by simp [h])⟩⟩
  clear hg hFg hFb hFa hFv oa ob hes'
  go_enter Tryd.func50, Tryd.ntmps50
  go_wp2
  go_loop [3] (fun i => ∃ k : Nat, k ≤ es.length ∧ i = .int .i64 k) (fun i => es.length - (intOf i).toNat)
  case atStart => exact ⟨0, Nat.zero_le _, rfl⟩
  case round =>
    obtain ⟨k, hk, rfl⟩ := hrel
    by_cases hlt : k < es.length
    · obtain ⟨ada, rfl, ha⟩ := HA.out k hlt
      obtain ⟨adb, rfl, hb⟩ := HBc.out k hlt
      obtain ⟨en, hen⟩ : ∃ en, en = es[k] := ⟨_, rfl⟩
      rw [← hen] at ha hb
      obtain ⟨cur, h1, h2, h3, h4, h5⟩ := HES.out es[k] (List.getElem_mem hlt)
      rw [← hen] at h1 h2 h3 h4 h5
      have HC : Aside0 (∀ m, m < 600 → w.cell? ⟨en.b, en.n + m, none⟩ = some (.int .u8 (lotb m))) := ⟨fun m hm => by rw [blk_cell h1]; exact h5 m hm⟩
      unfold entVal at ha
      unfold entNum at hb
      clear h1 h2 h5 hen
      go_wp2
      go_loop [5] (fun i => ∃ m : Nat, m ≤ 600 ∧ i = .int .i64 ((en.n : Int) + (m : Int))) (fun i => en.n + 600 - (intOf i).toNat)
      case atStart => exact ⟨0, Nat.zero_le _, by simp⟩
      case round =>
        obtain ⟨m, hm, rfl⟩ := hrel
        by_cases hml : m < 600
        · have hcell := HC.out m hml
          have HT : Aside0 (((lotb m) != (loti m % 256)) = false) := ⟨by rw [lot_byte]; simp⟩
          have ht := HT.out
          have hnat : ((en.n : Int) + (m : Int)).toNat = en.n + m := by omega
          go_wp2_with (first | (go_at_call 81; go_must (refine (lot_calls' _ m (by omega) _ (by omega)).mono ?_); rintro e w' ⟨rfl, rfl⟩))
          go_round
          case rel => exact ⟨m + 1, by omega, by go_num⟩
          case measure => simp [intOf]; omega
        · go_wp2
          go_round
          case rel => exact ⟨k + 1, by omega, by go_num⟩
          case measure => simp [intOf]; omega
    · go_wp2
      go_ret
      exact ⟨rfl, rfl⟩
set_option maxHeartbeats 1000000 in
set_option maxRecDepth 100000 in
theorem hold_calls (w : World) (base : Nat) (F : Nat → Prop) (g : Nat) (es : List Ent) (hR : RoomB w base F g es) (hes : es.length ≤ 1000) :
    Calls Tryd.prog 28 #[.pointer (some ⟨g, 0, none⟩)] w fun e w' => e = .returned (.bool true) ∧ w' = w := by
  have HR := Aside0.mk hR
  have HE : Aside0 (∀ j, 2 ≤ j → j < 28 → w.cell? ⟨g, j, none⟩ = some (.slice none 0 0)) := ⟨fun j h1 h2 => by
    obtain ⟨va, vb, hg, _⟩ := hR
    rw [blk_cell hg]
    have : j = 2 ∨ j = 3 ∨ j = 4 ∨ j = 5 ∨ j = 6 ∨ j = 7 ∨ j = 8 ∨ j = 9 ∨ j = 10 ∨ j = 11 ∨ j = 12 ∨ j = 13 ∨ j = 14 ∨ j = 15 ∨ j = 16 ∨ j = 17 ∨ j = 18 ∨ j = 19 ∨ j = 20 ∨ j = 21 ∨ j = 22 ∨ j = 23 ∨ j = 24 ∨ j = 25 ∨ j = 26 ∨ j = 27 := by omega
    rcases this with rfl | rfl | rfl | rfl | rfl | rfl | rfl | rfl | rfl | rfl | rfl | rfl | rfl | rfl | rfl | rfl | rfl | rfl | rfl | rfl | rfl | rfl | rfl | rfl | rfl | rfl <;> rfl⟩
  clear hR
  go_enter Tryd.func28, Tryd.ntmps28
  go_wp2_with (first
    | (go_at_call 50; go_must (refine (holdBytes_calls _ base F g es HR.out hes).mono ?_); rintro e w' ⟨rfl, rfl⟩)
    | (go_at_call 51; go_must (refine (holdInts_empty g _ (HE.out 2 (by decide) (by decide))).mono ?_); rintro e w' ⟨rfl, rfl⟩)
    | (go_at_call 52; go_must (refine (holdNums_empty g _ (HE.out 4 (by decide) (by decide))).mono ?_); rintro e w' ⟨rfl, rfl⟩)
    | (go_at_call 53; go_must (refine (holdTexts_empty g _ (HE.out 6 (by decide) (by decide))).mono ?_); rintro e w' ⟨rfl, rfl⟩)
    | (go_at_call 54; go_must (refine (holdEntries_empty g _ (HE.out 8 (by decide) (by decide))).mono ?_); rintro e w' ⟨rfl, rfl⟩)
    | (go_at_call 55; go_must (refine (holdPairs_empty g _ (HE.out 10 (by decide) (by decide))).mono ?_); rintro e w' ⟨rfl, rfl⟩)
    | (go_at_call 56; go_must (refine (holdWrites_empty g _ (HE.out 12 (by decide) (by decide))).mono ?_); rintro e w' ⟨rfl, rfl⟩)
    | (go_at_call 57; go_must (refine (holdTables_empty g _ (HE.out 14 (by decide) (by decide))).mono ?_); rintro e w' ⟨rfl, rfl⟩)
    | (go_at_call 58; go_must (refine (holdPlaces_empty g _ (HE.out 16 (by decide) (by decide))).mono ?_); rintro e w' ⟨rfl, rfl⟩)
    | (go_at_call 59; go_must (refine (holdPlaceds_empty g _ (HE.out 18 (by decide) (by decide))).mono ?_); rintro e w' ⟨rfl, rfl⟩)
    | (go_at_call 60; go_must (refine (holdChunks_empty g _ (HE.out 20 (by decide) (by decide))).mono ?_); rintro e w' ⟨rfl, rfl⟩)
    | (go_at_call 61; go_must (refine (holdGroups_empty g _ (HE.out 22 (by decide) (by decide))).mono ?_); rintro e w' ⟨rfl, rfl⟩)
    | (go_at_call 62; go_must (refine (holdFiles_empty g _ (HE.out 24 (by decide) (by decide))).mono ?_); rintro e w' ⟨rfl, rfl⟩)
    | (go_at_call 63; go_must (refine (holdSteps_empty g _ (HE.out 26 (by decide) (by decide))).mono ?_); rintro e w' ⟨rfl, rfl⟩))
  go_ret
  exact ⟨rfl, rfl⟩
theorem room_new (W : World) (base : Nat) (hb : base ≤ W.heap.size) : RoomB (W.alloc (.cells (roomCells (.slice none 0 0) (.slice none 0 0)) 79)) base (fun k => k = W.heap.size) W.heap.size [] :=
  ⟨.slice none 0 0, .slice none 0 0, heap_alloc_new W _, rfl, fun k hk => by omega, fun k hk => by simp [Value.ownBlock] at hk, fun k hk => by simp [Value.ownBlock] at hk, own_nil _ _ _ _, own_nil _ _ _ _, fun e he => by simp at he⟩
theorem RowAt.cell {W : World} {b : Nat} {l : List Int} (h : RowAt W b l) (k : Nat) (hk : k < l.length) : W.cell? ⟨b, k, none⟩ = some (.int .u8 (rd l k)) := by
  obtain ⟨cur, h1, h2⟩ := h
  rw [blk_cell h1, h2 k hk]
  rfl
theorem RowAt.frozen {W : World} {b : Nat} {l : List Int} (h : RowAt W b l) (k : Nat) : W.frozen? ⟨b, k, none⟩ = false := by
  obtain ⟨cur, h1, h2⟩ := h
  exact blk_frozen h1 k
theorem RowAt.set {W : World} {b : Nat} {l : List Int} (h : RowAt W b l) (k : Nat) (hk : k < l.length) (x : Int) : RowAt (W.setCell ⟨b, k, none⟩ (.int .u8 x)) b (l.set k x) := by
  obtain ⟨cur, h1, h2⟩ := h
  refine ⟨_, blk_set h1 k _, fun j hj => ?_⟩
  rw [List.length_set] at hj
  have hkc : k < cur.size := by
    have := h2 k hk
    exact (Array.getElem?_eq_some_iff.1 this).1
  by_cases e : j = k
  · subst e
    simp [List.getD_eq_getElem?_getD, hj, hkc]
  · rw [Array.getElem?_setIfInBounds_ne (by omega), h2 j hj]
    simp [List.getD_eq_getElem?_getD, List.getElem?_set_ne (Ne.symm e)]
theorem EntOk.set {W : World} {e : Ent} (h : EntOk W e) (b k : Nat) (v : Value) (hk : b = e.b → k < e.n) : EntOk (W.setCell ⟨b, k, none⟩ v) e := by
  obtain ⟨cur, h1, h2, h3, h4, h5⟩ := h
  by_cases hb : b = e.b
  · have := hk hb
    subst hb
    refine ⟨_, blk_set h1 k v, by simpa using h2, h3, h4, fun j hj => ?_⟩
    rw [Array.getElem?_setIfInBounds_ne (by omega)]
    exact h5 j hj
  · exact ⟨cur, (setCell_block (W := W) (j := k) (u := v) (Ne.symm hb)).trans h1, h2, h3, h4, h5⟩
theorem RoomB.set {W : World} {base : Nat} {F : Nat → Prop} {g : Nat} {es : List Ent} (h : RoomB W base F g es) (b k : Nat) (v : Value) (hF : ¬ F b) (hk : ∀ e ∈ es, b = e.b → k < e.n) : RoomB (W.setCell ⟨b, k, none⟩ v) base F g es := by
  obtain ⟨va, vb, h1, h2, h3, h4, h5, h6, h7, h8⟩ := h
  refine ⟨va, vb, (setCell_block (W := W) (j := k) (u := v) (by rintro rfl; exact hF h2)).trans h1, h2, h3, h4, h5, own_setCell (p := ⟨b, k, none⟩) h6 (fun e => hF (h4 b e.symm)) v, own_setCell (p := ⟨b, k, none⟩) h7 (fun e => hF (h5 b e.symm)) v, fun e he => (h8 e he).set b k v (hk e he)⟩
end Go.Proofs.YtaonjmkfbfhanaaDoor.Room
namespace Go.Proofs.YtaonjmkfbfhanaaDoor.Room
open Go.RowKit Go.Proofs.YtaonjmkfbfhanaaDoorW.PrintWords Go.Proofs.YtaonjmkfbfhanaaDoor.Own
set_option linter.unusedVariables false
structure Sit (w W : World) (g b n cap : Nat) (l : List Int) (Ak : Option Addr) (ck : Nat) (lk : List Int) : Prop where
  below : Below w.heap.size w W
  room : ∃ F, RoomB W w.heap.size F g [⟨b, n, cap⟩] ∧ ¬ F b
  row : RowAt W b l
  len : l.length = n
  nb : n ≤ 140737488351232
  ge : w.heap.size ≤ b
  kept : Kd.R (Kd.int .u8) 5 W w.heap.size (fun k => k ≠ b) (.slice Ak lk.length ck) lk
theorem Sit.step {w W W' : World} {g b n cap : Nat} {l : List Int} {Ak : Option Addr} {ck : Nat} {lk : List Int} (h : Sit w W g b n cap l Ak ck lk) (hb : Below W.heap.size W W') : Sit w W' g b n cap l Ak ck lk :=
  ⟨below_then h.below h.below.size hb, by obtain ⟨F, h1, h2⟩ := h.room; exact ⟨F, h1.below hb, h2⟩, h.row.below hb, h.len, h.nb, h.ge, Kd.R_below h.kept hb⟩
theorem Sit.reads {w W : World} {g b n cap : Nat} {l : List Int} {Ak : Option Addr} {ck : Nat} {lk : List Int} (h : Sit w W g b n cap l Ak ck lk) : Kd.C (Kd.int .u8) W (some ⟨b, 0, none⟩) l.length l := h.row.reads (by have := h.len; have := h.nb; omega)
theorem Sit.set {w W : World} {g b n cap : Nat} {l : List Int} {Ak : Option Addr} {ck : Nat} {lk : List Int} (h : Sit w W g b n cap l Ak ck lk) (k : Nat) (hk : k < l.length) (x : Int) : Sit w (W.setCell ⟨b, k, none⟩ (.int .u8 x)) g b n cap (l.set k x) Ak ck lk := by
  obtain ⟨F, h1, h2⟩ := h.room
  exact ⟨below_set h.below h.ge, ⟨F, h1.set b k _ h2 (fun e he hb => by obtain rfl := List.mem_singleton.1 he; have := h.len; simpa using (by omega : k < n)), h2⟩, h.row.set k hk x, by rw [List.length_set]; exact h.len, h.nb, h.ge, Kd.R_far h.kept (p := ⟨b, k, none⟩) (fun q hq => hq) _⟩
end Go.Proofs.YtaonjmkfbfhanaaDoor.Room
