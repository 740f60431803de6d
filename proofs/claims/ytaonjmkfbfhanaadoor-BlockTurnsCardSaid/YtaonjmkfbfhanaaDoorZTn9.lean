/- BlockTurns returns true, and leaves its arguments as they were, for every input; the table of four bits' sums reads as the program's text lays it (tied by the card). -/
import Derived.Test.YtaonjmkfbfhanaaDoorZTn7
import Derived.Test.YtaonjmkfbfhanaaDoorZTn8
import Derived.Test.YtaonjmkfbfhanaaDoorZTn4
import Derived.RangeFuncNested
import Derived.RangeFuncBound
import Derived.RangeFuncCalls
import Derived.RangeFuncLeaves
import Derived.RangeFuncBox
import Derived.Shelf.Abstract
import Derived.WalkKit
import Derived.OwnWalkIn
import Derived.TacticsInMore
import Derived.LoopNIn
import Derived.LoopIn
import Derived.Test.YtaonjmkfbfhanaaDoorZTn3
import Derived.WalkLawsBesides
import Derived.BigQuiet
import Derived.Test.YtaonjmkfbfhanaaDoorZTn2
import Derived.Test.YtaonjmkfbfhanaaDoorRows
import Derived.ProofKit
import Derived.OpenShut
import Derived.Test.YtaonjmkfbfhanaaDoorZTn1
import Derived.Deep.Slices
import Derived.Deep.Fields
import Derived.ChangeSame
import Derived.ChangeArms
import Derived.SizedLaws
import Derived.Deep.RegionHeld3
import Derived.Test.YtaonjmkfbfhanaaDoorCards
import Derived.Test.YtaonjmkfbfhanaaDoorTie
import Derived.ShutString
import Derived.ChangeOld
import Derived.Below
import Derived.Deep.DeepHandedRow
import Derived.Lib.LaidTab
import Derived.JoinedCond
import Derived.Deep.CondSized
namespace Go.Proofs.YtaonjmkfbfhanaaDoor.Bk
open Go.RowKit Go.Proofs.YtaonjmkfbfhanaaDoorW.PrintWords Go.Proofs.YtaonjmkfbfhanaaDoor.Own Go.Proofs.YtaonjmkfbfhanaaDoor.G Go.Proofs.YtaonjmkfbfhanaaDoor.Wk Go.Proofs.YtaonjmkfbfhanaaDoor.QBo
set_option linter.unusedVariables false
theorem same_l0 (l : List En) (hl : l.length ≤ 1000000000) : ∀ (d i : Nat), i + d = l.length → screelaw9_sameEntries.l0 (d + 1) l l (i : Int) = some true
  | 0, i, h => by
    unfold screelaw9_sameEntries.l0
    rw [if_neg (by omega)]
  | d + 1, i, h => by
    unfold screelaw9_sameEntries.l0
    rw [if_pos (by omega), if_pos (by omega), if_pos (by omega), if_neg (by simp)]
    have e : wrap64 ((i : Int) + 1) = ((i + 1 : Nat) : Int) := by unfold wrap64; omega
    rw [e]
    exact same_l0 l hl d (i + 1) (by omega)
theorem sameEntries_calls {w : World} {A1 A2 : Option Addr} {n1 c1 n2 c2 : Nat} {l : List En} (h1 : Kd.C kE w A1 n1 l) (hc1 : n1 ≤ c1) (h2 : Kd.C kE w A2 n2 l) (hc2 : n2 ≤ c2) (hl : l.length ≤ 1000000000) :
    Calls Tryd.prog 20 #[.slice A1 n1 c1, .slice A2 n2 c2] w fun e w' => e = .returned (.bool true) ∧ Below w.heap.size w w' := by
  have e1 : l.length = n1 := h1.1
  have e2 : l.length = n2 := h2.1
  subst e1
  subst e2
  refine (screelaw9_sameEntries.calls (l.length + 1) A1 c1 l A2 c2 l true w h1 hc1 h2 hc2 (by unfold screelaw9_sameEntries.f; rw [if_pos rfl]; exact same_l0 l hl l.length 0 (by omega))).mono ?_
  rintro e w' ⟨rfl, h⟩
  exact ⟨rfl, by first | exact h | exact h.below⟩
theorem same_calls {w : World} {A1 A2 : Option Addr} {n1 c1 n2 c2 : Nat} {l1 l2 : List Int} (h1 : Rd (Kd.int .u8) w A1 n1 c1 l1) (h2 : Rd (Kd.int .u8) w A2 n2 c2 l2) (hl : l1.length ≤ 1000000000) :
    Calls Tryd.prog 18 #[.slice A1 n1 c1, .slice A2 n2 c2] w fun e w' => e = .returned (.bool (decide (l1 = l2))) ∧ Below w.heap.size w w' := by
  obtain ⟨e1, hc1, h1⟩ := h1
  obtain ⟨e2, hc2, h2⟩ := h2
  subst e1
  subst e2
  refine (screelaw9_same.calls A1 c1 l1 A2 c2 l2 (decide (l1 = l2)) w h1 hc1 h2 hc2 (by unfold screelaw9_same.f; rw [if_pos (by omega)])).mono ?_
  rintro e w' ⟨rfl, h⟩
  exact ⟨rfl, by first | exact h | exact h.below⟩
end Go.Proofs.YtaonjmkfbfhanaaDoor.Bk
namespace Go.Proofs.YtaonjmkfbfhanaaDoor.Bk
open Go.RowKit Go.Proofs.YtaonjmkfbfhanaaDoorW.PrintWords Go.Proofs.YtaonjmkfbfhanaaDoor.Own Go.Proofs.YtaonjmkfbfhanaaDoor.G Go.Proofs.YtaonjmkfbfhanaaDoor.Wk Go.Proofs.YtaonjmkfbfhanaaDoor.QBo
set_option linter.unusedVariables false
theorem num_calls (c : Int) (w : World) : Calls Tryd.prog 19 #[.int .i64 c] w fun e w' => e = .returned (.int .i64 c) ∧ w' = w := by
  go_enter Tryd.func19, Tryd.ntmps19
  go_wp2_with fail
  go_ret
  exact ⟨rfl, rfl⟩
theorem kE_typed {q : Nat} (h : q ∈ 30 :: kE.E) : q = 30 := by
  rcases List.mem_cons.1 h with h | h
  · exact h
  · exact absurd h List.not_mem_nil
theorem MkAt.grown {W W1 : World} {base g : Nat} {m : Mk} {v1 v2 : Value} {row : Option Nat} (h : MkAt W base g m v1 v2) (hg : W.grownBy W1 row) (hr : ∀ k, row = some k → ∃ cs, W.heap[k]? = some (.cells cs 30 (0, 0))) : MkAt W1 base g m v1 v2 := by
  obtain ⟨h1, h2, h3, h4⟩ := h
  refine ⟨(hg.block g (blk_lt h1) (fun e => ?_)).trans h1, h2, Kd.R_mono (Kd.R_step (Kd.R_bound h3) (fun k hk hlt => ?_)) (fun _ _ => trivial), Kd.R_mono (Kd.R_step (Kd.R_bound h4) (fun k hk hlt => ?_)) (fun _ _ => trivial)⟩
  · obtain ⟨cs, hc⟩ := hr g e.symm
    rw [h1] at hc; injection hc with hc; injection hc with _ e3; exact absurd e3 (by decide)
  · obtain ⟨_, _, _, q, hq, cs, hc⟩ := hk
    have hq' : q = 5 := by
      rcases List.mem_cons.1 hq with h | h
      · exact h
      · exact absurd h List.not_mem_nil
    subst hq'
    exact hg.block k hlt (fun e => by
      obtain ⟨c2, e2⟩ := hr k e.symm
      rw [hc] at e2; injection e2 with e2; injection e2 with _ e3; exact absurd e3 (by decide))
  · obtain ⟨_, _, _, q, hq, cs, hc⟩ := hk
    have hq' : q = 3 := by
      rcases List.mem_cons.1 hq with h | h
      · exact h
      · exact absurd h List.not_mem_nil
    subst hq'
    exact hg.block k hlt (fun e => by
      obtain ⟨c2, e2⟩ := hr k e.symm
      rw [hc] at e2; injection e2 with e2; injection e2 with _ e3; exact absurd e3 (by decide))
end Go.Proofs.YtaonjmkfbfhanaaDoor.Bk
namespace Go.Proofs.YtaonjmkfbfhanaaDoor.Bk
open Go.RowKit Go.Proofs.YtaonjmkfbfhanaaDoorW.PrintWords Go.Proofs.YtaonjmkfbfhanaaDoor.Own Go.Proofs.YtaonjmkfbfhanaaDoor.G Go.Proofs.YtaonjmkfbfhanaaDoor.Wk Go.Proofs.YtaonjmkfbfhanaaDoor.QBo
set_option linter.unusedVariables false
def sA : ByteArray := ⟨#[97]⟩
def sAA : ByteArray := ⟨#[97, 97]⟩
theorem lt1 : ltK sA sAA = true := by kernel_rfl
end Go.Proofs.YtaonjmkfbfhanaaDoor.Bk
namespace Go.Proofs.YtaonjmkfbfhanaaDoor.Bk
open Go.RowKit Go.Shelf Go.Proofs.YtaonjmkfbfhanaaDoorW.PrintWords Go.Proofs.YtaonjmkfbfhanaaDoor.Own Go.Proofs.YtaonjmkfbfhanaaDoor.G Go.Proofs.YtaonjmkfbfhanaaDoor.Wk Go.Proofs.YtaonjmkfbfhanaaDoor.QBo
set_option linter.unusedVariables false
attribute [local go_sem] Oper.semAt_some
def eV (e : En) : Value := .agg #[.string e.f0, .int .u64 e.f1, .bool e.f2, .string e.f3]
set_option maxHeartbeats 1000000 in
theorem all_in (F : Fence) (n : Nat) (h47 : F.fn 47) (hro : F.round = none) (p : Option Addr) (w : World) :
    CallsIn F n Tryd.prog 47 #[.pointer p] w fun e w' => e = .returned (.func (.func 80) #[] #[.pointer (some ⟨w.heap.size, 0, none⟩)]) ∧ w' = w.alloc (.cells #[.pointer p] 39) := by
  refine callsIn_of_wp Tryd.func47 rfl h47 ?_ hro
  simp only [Tryd.ntmps47, List.size_toArray, List.length_cons, List.length_nil, Nat.reduceAdd, Nat.reduceSub, Array.replicate_succ, Array.replicate_zero, List.push_toArray, List.append_toArray, List.nil_append, List.cons_append]
  gi_wp2
  go_ret
  exact ⟨rfl, rfl⟩
set_option maxRecDepth 100000 in
set_option maxHeartbeats 2000000 in
theorem all1_in (F : Fence) (n : Nat) (h80 : F.fn 80) (hro : F.round = none) (hn : 1 ≤ n) (l Bs gk n1 c1 : Nat) (A : Option Addr) (es : List En) (w0 : World) (J Jx : List En → World → Prop)
    (hn1 : es.length = n1) (hgk : w0.cell? ⟨gk, 0, none⟩ = some (.slice A n1 c1)) (hC : Kd.C kE w0 A n1 es)
    (hJ : ∀ s X o, J s X → J s (X.alloc o))
    (hY : ∀ pre x W, J pre W → pre.length < n1 → YieldAt F (n - 1) Tryd.prog l #[eV x] W fun e W' =>
      (e = .returned (.bool true) ∧ J (pre ++ [x]) W' ∧ Below w0.heap.size W W') ∨ (e = .returned (.bool false) ∧ Jx (pre ++ [x]) W'))
    (W : World) (hW : Below w0.heap.size w0 W) (hBs : W.cell? ⟨Bs, 0, none⟩ = some (.pointer (some ⟨gk, 0, none⟩))) (h0 : J [] W) :
    CallsIn F n Tryd.prog 80 #[.func (.yield l) #[] #[], .pointer (some ⟨Bs, 0, none⟩)] W fun e W' => (∃ v, e = .returned v) ∧
      ((∃ ys, ys = es ∧ J ys W') ∨ (∃ pre, pre <+: es ∧ Jx pre W')) := by
  have hk0 : W.cell? ⟨gk, 0, none⟩ = some (.slice A n1 c1) := pw_cell_below hW hgk
  have hn9 : n1 ≤ 9223372036854775807 := hC.2.1
  have HC := Aside0.mk hC
  clear hC
  refine callsIn_of_wp Tryd.func80 rfl h80 ?_ hro
  simp only [Tryd.ntmps80, List.size_toArray, List.length_cons, List.length_nil, Nat.reduceAdd, Nat.reduceSub, Array.replicate_succ, Array.replicate_zero, List.push_toArray, List.append_toArray, List.nil_append, List.cons_append]
  gi_wp2
  gi_loopw [10] (fun i wr => ∃ k : Nat, k ≤ n1 ∧ i = .int .i64 k ∧ Aside0 (J (es.take k) wr) ∧ Aside0 (Below w0.heap.size W wr)) (fun i _ => n1 - (intOf i).toNat)
  case atStart => exact ⟨0, Nat.zero_le _, rfl, ⟨h0⟩, ⟨Below.refl _ _⟩⟩
  case round =>
    obtain ⟨k, hk, rfl, HJ, HB⟩ := hrel
    by_cases hlt : k < n1
    · obtain ⟨ad, ea, x0, x1, x2, x3⟩ := at_T30 (Kd.C_below HC.out (hW.trans HB.out)) (k : Int) (by omega) (by omega)
      subst ea
      obtain ⟨e, he⟩ : ∃ e, rd_T30 es (k : Int) = e := ⟨_, rfl⟩
      rw [he, Int.toNat_natCast] at x0 x1 x2 x3
      have hek : es[k]'(by omega) = e := by rw [← he]; simp [rd_T30, List.getD_eq_getElem?_getD, hn1, hlt]
      have HT : Aside0 (es.take (k + 1) = es.take k ++ [e]) := ⟨by rw [List.take_succ_eq_append_getElem (by omega), hek]⟩
      obtain ⟨fn, tmps, assign, body, hy, hR⟩ := hY (es.take k) e _ (hJ _ _ (.cells #[.string e.f0, .int .u64 e.f1, .bool e.f2, .string e.f3] 30) HJ.out) (by rw [List.length_take]; omega)
      have HBA : Aside0 (Below w0.heap.size W (wr.alloc (.cells #[.string e.f0, .int .u64 e.f1, .bool e.f2, .string e.f3] 30))) := ⟨HB.out.alloc (Nat.le_trans hW.size HB.out.size) _⟩
      unfold eV at hy
      clear he hek
      gi_wp2
      refine hR.mono ?_
      rintro en W3 (⟨rfl, hJ3, hk3⟩ | ⟨rfl, hJx3⟩)
      · have HJ3 := Aside0.mk hJ3
        have HB3 := Aside0.mk (HBA.out.trans hk3)
        clear hJ3 hk3
        gi_wp2
        go_roundw
        case rel => exact ⟨k + 1, by omega, by simp, by rw [HT.out]; exact HJ3, HB3⟩
        case measure => simp [intOf]; omega
      · have HX3 := Aside0.mk hJx3
        clear hJx3
        gi_wp2
        refine bodyPost_ret (results_none rfl _ _ _) rfl ?_
        exact ⟨⟨_, rfl⟩, .inr ⟨_, by rw [← HT.out]; exact List.take_prefix _ _, HX3.out⟩⟩
    · obtain rfl : k = n1 := by omega
      gi_wp2
      go_end0
      exact ⟨⟨_, rfl⟩, .inl ⟨_, List.take_of_length_le (by omega), HJ.out⟩⟩
end Go.Proofs.YtaonjmkfbfhanaaDoor.Bk
namespace Go.Proofs.YtaonjmkfbfhanaaDoor.Bk
open Go.RowKit Go.Shelf Go.Proofs.YtaonjmkfbfhanaaDoorW.PrintWords Go.Proofs.YtaonjmkfbfhanaaDoor.Own Go.Proofs.YtaonjmkfbfhanaaDoor.G Go.Proofs.YtaonjmkfbfhanaaDoor.Wk Go.Proofs.YtaonjmkfbfhanaaDoor.QBo
set_option linter.unusedVariables false
attribute [local go_sem] Oper.semAt_some
def cE (x : En) : List Value := [.string x.f0, .int .u64 x.f1, .bool x.f2, .string x.f3]
def givenL (n : Int) (es : List En) : List En := if n = 0 then [] else if 0 < n then es.take n.toNat else es
theorem all_stops (F : Fence) (n : Nat) (h80 : F.fn 80) (hro : F.round = none) (hn : 1 ≤ n) (Bs gk n1 c1 : Nat) (A : Option Addr) (es : List En) (w0 w : World)
    (hn1 : es.length = n1) (hgk : w0.cell? ⟨gk, 0, none⟩ = some (.slice A n1 c1)) (hC : Kd.C kE w0 A n1 es) (hB : Below w0.heap.size w0 w) (hBs : w.cell? ⟨Bs, 0, none⟩ = some (.pointer (some ⟨gk, 0, none⟩))) (hBl : Bs < w.heap.size) :
    SeqStopsK F n Tryd.prog 80 #[.pointer (some ⟨Bs, 0, none⟩)] (fun x : En => #[eV x]) (Below w0.heap.size) (fun ys => ys = es) (fun pre => pre <+: es) es.length w := fun l J Jx W hW hJ _ hY h0 =>
  all1_in F n h80 hro hn l Bs gk n1 c1 A es w0 J Jx hn1 hgk hC (fun s X o hs => hJ s X _ none hs (World.grownBy_alloc X o none) (fun r e => by cases e)) (by rw [← hn1]; exact hY) W (hB.trans (hW.mono hB.size)) ((hW.cell (p := ⟨Bs, 0, none⟩) hBl).trans hBs) h0
theorem block_own {β : Type} (B Bx : Nat) (cs : Array Value) (t : TypeId) : OwnFrom B (fun (_ : β) W => W.heap[Bx]? = some (.cells cs t (0, 0))) := fun s X Y row hs hg hrow =>
  (hg.block Bx (blk_lt hs) (fun e => by obtain ⟨_, o, ho, hc⟩ := hrow Bx e.symm; rw [hs] at ho; cases ho; cases hc)).trans hs
theorem four_new (w : World) (a b c d : Value) (t : TypeId) : ∀ j u, [a, b, c, d][j]? = some u → (w.alloc (.cells #[a, b, c, d] t)).cell? ((⟨w.heap.size, 0, none⟩ : Addr).add j) = some u := by
  intro j u hu
  rcases j with _ | _ | _ | _ | j
  · exact (show (w.alloc (.cells #[a, b, c, d] t)).cell? ⟨w.heap.size, 0, none⟩ = some u from (blk_cell (heap_alloc_new w _) 0).trans hu)
  · exact (show (w.alloc (.cells #[a, b, c, d] t)).cell? ⟨w.heap.size, 1, none⟩ = some u from (blk_cell (heap_alloc_new w _) 1).trans hu)
  · exact (show (w.alloc (.cells #[a, b, c, d] t)).cell? ⟨w.heap.size, 2, none⟩ = some u from (blk_cell (heap_alloc_new w _) 2).trans hu)
  · exact (show (w.alloc (.cells #[a, b, c, d] t)).cell? ⟨w.heap.size, 3, none⟩ = some u from (blk_cell (heap_alloc_new w _) 3).trans hu)
  · exact absurd hu (by simp)
theorem infoE : (Tryd.prog.info? 30).map (fun i => (i.zero, i.size, i.bytes)) = some (some (.agg #[(.string ⟨#[]⟩), (.int .u64 0), (.bool false), (.string ⟨#[]⟩)]), 4, 48) := by kernel_rfl
set_option maxRecDepth 100000 in
set_option maxHeartbeats 4000000 in
theorem given_in (F : Fence) (n : Nat) (h21 : F.fn 21) (h47 : F.fn 47) (h80 : F.fn 80) (hro : F.round = none) (hn : 3 ≤ n) (gk n1 c1 : Nat) (A : Option Addr) (es : List En) (q : Int) (hq0 : q ≠ 0) (w : World)
    (hn1 : es.length = n1) (hl : n1 ≤ 1073741824) (hgk : w.cell? ⟨gk, 0, none⟩ = some (.slice A n1 c1)) (hC : Kd.C kE w A n1 es) :
    CallsIn F n Tryd.prog 21 #[.pointer (some ⟨gk, 0, none⟩), .int .i64 q] w fun e W' => ∃ v, e = .returned v ∧ W'.ownsRow w.heap.size 30 4 v (givenL q es).length ((givenL q es).flatMap cE) ∧ Below w.heap.size w W' := by
  have h1 : 1 ≤ n := by omega
  have hnf : ∀ (c : Array Value) (W : World), (binOp .eql 105 (.func (.func 80) #[] c) .nilFunc).run Tryd.prog W = .ok (.bool false) W := fun c W => by rfl
  obtain ⟨i0, hi, hz0, hz1, hz2⟩ := info_parts infoE
  have dq : (q == 0) = false := by rw [beq_eq_false_iff_ne]; exact hq0
  refine callsIn_of_wp_marks Tryd.func21 rfl h21 ?_ hro
  simp only [Tryd.ntmps21, List.size_toArray, List.length_cons, List.length_nil, Nat.reduceAdd, Nat.reduceSub, Array.replicate_succ, Array.replicate_zero, List.push_toArray, List.append_toArray, List.nil_append, List.cons_append]
  gi_wp2_with (gi_at_call 47; refine (all_in F (n - 1) h47 hro _ _).mono ?_; rintro e w' ⟨rfl, rfl⟩)
  have bN := Boxed.new w 3 (.int .i64 q)
  have bO := Boxed.new (w.alloc (.cells #[.int .i64 q] 3)) 25 (.slice none 0 0)
  have bB := Boxed.new ((w.alloc (.cells #[.int .i64 q] 3)).alloc (.cells #[.slice none 0 0] 25)) 39 (.pointer (some ⟨gk, 0, none⟩))
  rw [World.size_alloc] at bO bB
  rw [World.size_alloc] at bB
  obtain ⟨W0, hW0⟩ : ∃ W0, (((w.alloc (.cells #[.int .i64 q] 3)).alloc (.cells #[.slice none 0 0] 25)).alloc (.cells #[.pointer (some ⟨gk, 0, none⟩)] 39)) = W0 := ⟨_, rfl⟩
  have bN0 : Boxed W0 w.heap.size 3 (.int .i64 q) := hW0 ▸ (bN.alloc _).alloc _
  have bO0 : Boxed W0 (w.heap.size + 1) 25 (.slice none 0 0) := hW0 ▸ bO.alloc _
  have bB0 : Boxed W0 (w.heap.size + 1 + 1) 39 (.pointer (some ⟨gk, 0, none⟩)) := hW0 ▸ bB
  have hB0 : Below w.heap.size w W0 := hW0 ▸ (((Below.refl _ w).alloc (Nat.le_refl _) _).alloc (by simp) _).alloc (by simp; omega) _
  have hs0 : W0.heap.size = w.heap.size + 1 + 1 + 1 := by rw [← hW0]; simp
  rw [hW0]
  clear bN bO bB
  refine wpIn_rangeFunc_ownH hro h1 (gf := 80) (lb := #[.pointer (some ⟨w.heap.size + 1 + 1, 0, none⟩)]) rfl h80 (enters_of Tryd.func80 (by kernel_rfl) rfl)
    (all_stops F (n - 1) h80 hro (by omega) (w.heap.size + 1 + 1) gk n1 c1 A es w W0 hn1 hgk hC hB0 bB0.cell (by omega)) belowK_t (belowK_b (by omega)) (Below.refl _ _) (fun _ => rfl)
    (fun pre W => ((∃ v, Boxed W (w.heap.size + 1) 25 v ∧ W.ownsRow w.heap.size 30 4 v pre.length (pre.flatMap cE) ∧ True) ∧ Boxed W w.heap.size 3 (.int .i64 q)) ∧ (Below w.heap.size w W ∧ (0 < q → (pre.length : Int) < q)))
    (fun c pre W => (∃ v, Boxed W (w.heap.size + 1) 25 v ∧ W.ownsRow w.heap.size 30 4 v pre.length (pre.flatMap cE) ∧ True) ∧ (Below w.heap.size w W ∧ (c = .exit 0 ∧ (pre.length : Int) = q)))
    (OwnFrom.and (OwnFrom.and (Own.from (holdsRow_own w.heap.size (w.heap.size + 1) 25 30 4 (fun pre : List En => pre.length) (fun pre => pre.flatMap cE) (fun _ _ => True)) _) (Own.from (boxed_own _ _ _) _)) (OwnFrom.and (ownFrom_below (Nat.le_refl _) (by omega)) (ownFrom_pure _ _)))
    (fun c => OwnFrom.and (Own.from (holdsRow_own w.heap.size (w.heap.size + 1) 25 30 4 (fun pre : List En => pre.length) (fun pre => pre.flatMap cE) (fun _ _ => True)) _) (OwnFrom.and (ownFrom_below (Nat.le_refl _) (by omega)) (ownFrom_pure _ _)))
    ⟨⟨⟨_, bO0, World.ownsRow_nil _ _ _ _, trivial⟩, bN0⟩, hB0, fun h => h⟩
    (fun x a' W => ∃ Bx, w.heap.size + 1 < Bx ∧ W.heap[Bx]? = some (.cells #[.string x.f0, .int .u64 x.f1, .bool x.f2, .string x.f3] 30 (0, 0)) ∧ a' = { tmps := #[.pointer (some ⟨gk, 0, none⟩), .int .i64 q, undef, .pointer (some ⟨w.heap.size, 0, none⟩), .slice none 0 0, .pointer (some ⟨w.heap.size + 1, 0, none⟩), .func (.func 80) #[] #[.pointer (some ⟨w.heap.size + 1 + 1, 0, none⟩)], .pointer (some ⟨Bx, 0, none⟩), .int .i64 q, .bool false, .pointer (some ⟨gk, 0, none⟩), .func (.func 80) #[] #[.pointer (some ⟨w.heap.size + 1 + 1, 0, none⟩)], .func (.func 80) #[] #[.pointer (some ⟨w.heap.size + 1 + 1, 0, none⟩)], .bool false, undef, undef, .func (.func 80) #[] #[.pointer (some ⟨w.heap.size + 1 + 1, 0, none⟩)], .agg #[.string x.f0, .int .u64 x.f1, .bool x.f2, .string x.f3], undef, undef, undef, undef, undef, undef, undef, undef, undef], defers := [] })
    (fun x a' _ X Y row hs hg hr => by obtain ⟨Bx, h1, h2, h3⟩ := hs; exact ⟨Bx, h1, block_own (β := Unit) _ Bx _ _ () X Y row h2 hg hr, h3⟩)
    ?assign ?body ?done ?stop
  case assign =>
    rintro l pre x W K ⟨⟨⟨v, hv, hrow, -⟩, bN1⟩, hB1, hlq⟩ hK
    unfold eV
    gi_wp2
    exact hK _ _ ((KeepsOthers.alloc _ _).from _) ((Below.refl _ W).alloc hB1.size _) ⟨⟨⟨_, hv.alloc _, hrow.alloc _, trivial⟩, bN1.alloc _⟩, hB1.alloc hB1.size _, hlq⟩ ⟨W.heap.size, hv.lt, heap_alloc_new W _, rfl⟩
  case body =>
    rintro l pre x a' W hl ⟨r, hr⟩ ⟨⟨⟨v, hv, hrow, -⟩, bN1⟩, hB1, hlq⟩ ⟨Bx, hBx, bX, rfl⟩ hlt
    have hc := hv.cell
    have cN := bN1.cell
    have x0 : W.cell? ⟨Bx, 0, none⟩ = some (.string x.f0) := by rw [blk_cell bX]; rfl
    have x1 : W.cell? ⟨Bx, 1, none⟩ = some (.int .u64 x.f1) := by rw [blk_cell bX]; rfl
    have x2 : W.cell? ⟨Bx, 2, none⟩ = some (.bool x.f2) := by rw [blk_cell bX]; rfl
    have x3 : W.cell? ⟨Bx, 3, none⟩ = some (.string x.f3) := by rw [blk_cell bX]; rfl
    have HC4 : ∀ j u, (cE x)[j]? = some u → (W.alloc (.cells #[.string x.f0, .int .u64 x.f1, .bool x.f2, .string x.f3] 30)).cell? ((⟨W.heap.size, 0, none⟩ : Addr).add j) = some u := four_new W _ _ _ _ _
    have HO4 : ∀ u ∈ cE x, u.oneCell' = true := by unfold cE; simp [Value.oneCell']
    have hFM : (pre ++ [x]).flatMap cE = pre.flatMap cE ++ cE x := by rw [List.flatMap_append, List.flatMap_cons, List.flatMap_nil, List.append_nil]
    have hPL : (pre ++ [x]).length = pre.length + 1 := by rw [List.length_append]; rfl
    obtain ⟨k, hk⟩ : ∃ k, pre.length = k := ⟨_, rfl⟩
    rw [hk] at hrow hlt hlq
    have hkz : Aside0 ((pre ++ [x]).length = k + 1) := ⟨by rw [hPL, hk]⟩
    have HL9 : Aside0 (0 < q → (k : Int) < q) := ⟨hlq⟩
    have HPK := Aside0.mk hk
    have HFM := Aside0.mk hFM
    clear hlq hk hFM hPL
    by_cases hq : (k : Int) + 1 = q
    · have z1 : ((k : Int) + 1 == q) = true := beq_iff_eq.mpr hq
      have HQ := Aside0.mk hq
      clear hq
      gi_wp2_with (gi_at_builtin; go_must (refine wpListIn_append_own _ rfl _ _ 25 rfl w.heap.size 30 i0 _ 4 48 Tryd.underlying25 hi hz0 hz1 hz2 rfl (by decide) _ _ _ rfl (hrow.alloc _) ⟨W.heap.size, 0, none⟩ 1 1 (cE x) rfl rfl HC4 HO4 (show k + 1 ≤ 9223372036854775807 by omega) (by omega) (by have := hB1.size; simp; omega) ?_); intro v' w1 hown' hgrow _; obtain ⟨g', cap', rfl⟩ := ownsRow_succ hown'; (have bN2 := ((bN1.alloc (.cells #[.string x.f0, .int .u64 x.f1, .bool x.f2, .string x.f3] 30)).kept hgrow (bN1.not_row (by decide) hrow)).other (B' := w.heap.size + 1) (by omega) (.slice (some ⟨g', 0, none⟩) (k + 1) cap')); obtain ⟨hv1, hv2, hr2, hk2, hb2⟩ := hv.appended (by decide) hrow hB1.size (by omega) hown' hgrow; have hc1 := hv1.cell; have hf1 := hv1.frozen; have hc2 := hv2.cell; have hcN2 := bN2.cell)
      exact ⟨hk2.from _, ⟨_, hv2, by rw [hkz.out, HFM.out]; exact hr2, trivial⟩, hB1.trans hb2, rfl, by rw [hkz.out]; have := HQ.out; omega⟩
    · have z1 : ((k : Int) + 1 == q) = false := beq_eq_false_iff_ne.mpr hq
      have HQ := Aside0.mk hq
      clear hq
      gi_wp2_with (gi_at_builtin; go_must (refine wpListIn_append_own _ rfl _ _ 25 rfl w.heap.size 30 i0 _ 4 48 Tryd.underlying25 hi hz0 hz1 hz2 rfl (by decide) _ _ _ rfl (hrow.alloc _) ⟨W.heap.size, 0, none⟩ 1 1 (cE x) rfl rfl HC4 HO4 (show k + 1 ≤ 9223372036854775807 by omega) (by omega) (by have := hB1.size; simp; omega) ?_); intro v' w1 hown' hgrow _; obtain ⟨g', cap', rfl⟩ := ownsRow_succ hown'; (have bN2 := ((bN1.alloc (.cells #[.string x.f0, .int .u64 x.f1, .bool x.f2, .string x.f3] 30)).kept hgrow (bN1.not_row (by decide) hrow)).other (B' := w.heap.size + 1) (by omega) (.slice (some ⟨g', 0, none⟩) (k + 1) cap')); obtain ⟨hv1, hv2, hr2, hk2, hb2⟩ := hv.appended (by decide) hrow hB1.size (by omega) hown' hgrow; have hc1 := hv1.cell; have hf1 := hv1.frozen; have hc2 := hv2.cell; have hcN2 := bN2.cell)
      exact ⟨hk2.from _, hb2, ⟨⟨_, hv2, by rw [hkz.out, HFM.out]; exact hr2, trivial⟩, bN2⟩, hB1.trans hb2, fun h => by rw [hkz.out]; have z1 := HQ.out; have z2 := HL9.out h; omega⟩
  case done =>
    rintro D ys W hD rfl ⟨⟨⟨v, hv, hrow, -⟩, bN1⟩, hB1, hlq⟩ hK
    have hc := hv.cell
    gi_wp2
    refine ⟨by simp, .inl ⟨_, _, rfl, run_takeDeferred hK, ?_⟩⟩
    have hg : givenL q ys = ys := by
      unfold givenL
      rw [if_neg hq0]
      by_cases h : 0 < q
      · rw [if_pos h, List.take_of_length_le (by have := hlq h; omega)]
      · rw [if_neg h]
    rw [hg]
    exact ⟨_, results_tmp rfl _ _ _, v, rfl, ownsRow_putObj hrow _ hK rfl, hB1.trans (belowK_b (w := w) (Nat.le_refl _) W D _ _ (by omega) hK rfl rfl)⟩
  case stop =>
    rintro D c pre W hD hpre ⟨⟨v, hv, hrow, -⟩, hB1, rfl, hpq⟩ hK
    have hc := hv.cell
    gi_wp2
    refine ⟨by simp, .inl ⟨_, _, rfl, run_takeDeferred hK, ?_⟩⟩
    have hg : givenL q es = pre := by
      unfold givenL
      rw [if_neg hq0, if_pos (by omega)]
      obtain ⟨t, rfl⟩ := hpre
      rw [← hpq, Int.toNat_natCast, List.take_left']
      rfl
    rw [hg]
    exact ⟨_, results_tmp rfl _ _ _, v, rfl, ownsRow_putObj hrow _ hK rfl, hB1.trans (belowK_b (w := w) (Nat.le_refl _) W D _ _ (by omega) hK rfl rfl)⟩
end Go.Proofs.YtaonjmkfbfhanaaDoor.Bk
namespace Go.Proofs.YtaonjmkfbfhanaaDoor.Bk
open Go.RowKit Go.Shelf Go.Proofs.YtaonjmkfbfhanaaDoorW.PrintWords Go.Proofs.YtaonjmkfbfhanaaDoor.Own Go.Proofs.YtaonjmkfbfhanaaDoor.G Go.Proofs.YtaonjmkfbfhanaaDoor.Wk Go.Proofs.YtaonjmkfbfhanaaDoor.QBo
set_option linter.unusedVariables false
theorem reps_cE (w : World) (base : Nat) (ok : Nat → Prop) (es : List En) : Reps (kE.M w base ok) 4 es (es.flatMap cE) := by
  induction es with
  | nil => exact Reps.none _ _
  | cons x es ih =>
    refine ⟨?_, fun j p hp => ?_⟩
    · rw [List.flatMap_cons, List.length_append, ih.1, List.length_cons, Nat.add_mul]
      show 4 + _ = _
      omega
    · cases j with
      | zero =>
        rw [List.getElem?_cons_zero, Option.some.injEq] at hp
        subst hp
        exact k30_mkM w base ok x
      | succ j =>
        rw [List.getElem?_cons_succ] at hp
        have h := ih.2 j p hp
        rw [List.flatMap_cons, show (j + 1) * 4 = 4 + j * 4 by omega, ← List.drop_drop]
        exact h
theorem row_R {w : World} {base : Nat} {v : Value} {es : List En} (h : w.ownsRow base 30 4 v es.length (es.flatMap cE)) : kE.R 30 w base (fun _ => True) v es :=
  ⟨fun _ _ => trivial, _, h, reps_cE _ _ _ _⟩
def GivenPost (w : World) (es : List En) (e : Ending) (W' : World) : Prop := ∃ v, e = .returned v ∧ kE.R 30 W' w.heap.size (fun _ => True) v es ∧ Below w.heap.size w W'
theorem given_calls (gk n1 c1 : Nat) (A : Option Addr) (es : List En) (q : Int) (w : World) (hl : n1 ≤ 1073741824) (hgk : w.cell? ⟨gk, 0, none⟩ = some (.slice A n1 c1)) (hC : Kd.C kE w A n1 es) :
    Calls Tryd.prog 21 #[.pointer (some ⟨gk, 0, none⟩), .int .i64 q] w (GivenPost w (givenL q es)) := by
  by_cases hq : q = 0
  · subst hq
    rw [show givenL 0 es = [] from if_pos rfl]
    go_enter Tryd.func21, Tryd.ntmps21
    go_wp2_with fail
    go_ret
    exact ⟨_, rfl, Kd.R_nil _ _ _ _ _, ((Below.refl _ w).alloc (Nat.le_refl _) _).alloc (by simp) _⟩
  · refine ((callsIn_wide (n := 3)).1 (given_in _ 3 trivial trivial trivial rfl (Nat.le_refl _) gk n1 c1 A es q hq w hC.1 hl hgk hC)).mono ?_
    rintro e W' ⟨v, rfl, hr, hb⟩
    exact ⟨v, rfl, row_R hr, hb⟩
end Go.Proofs.YtaonjmkfbfhanaaDoor.Bk
namespace Go.Proofs.YtaonjmkfbfhanaaDoor.Bk
open Go.RowKit Go.Proofs.YtaonjmkfbfhanaaDoorW.PrintWords Go.Proofs.YtaonjmkfbfhanaaDoor.Own Go.Proofs.YtaonjmkfbfhanaaDoor.G Go.Proofs.YtaonjmkfbfhanaaDoor.Wk Go.Proofs.YtaonjmkfbfhanaaDoor.QBo
set_option linter.unusedVariables false
end Go.Proofs.YtaonjmkfbfhanaaDoor.Bk
namespace Go.Proofs.YtaonjmkfbfhanaaDoor.Bk
open Go.RowKit Go.Proofs.YtaonjmkfbfhanaaDoorW.PrintWords Go.Proofs.YtaonjmkfbfhanaaDoor.Own Go.Proofs.YtaonjmkfbfhanaaDoor.G Go.Proofs.YtaonjmkfbfhanaaDoor.QBo
set_option linter.unusedVariables false
end Go.Proofs.YtaonjmkfbfhanaaDoor.Bk
namespace Go.Proofs.YtaonjmkfbfhanaaDoor.Bk
open Go.RowKit Go.Proofs.YtaonjmkfbfhanaaDoorW.PrintWords Go.Proofs.YtaonjmkfbfhanaaDoor.Own Go.Proofs.YtaonjmkfbfhanaaDoor.G Go.Proofs.YtaonjmkfbfhanaaDoor.Wk Go.Proofs.YtaonjmkfbfhanaaDoor.QBo
set_option linter.unusedVariables false
theorem givenAll (L : List En) : givenL (-1) L = L := by unfold givenL; rw [if_neg (by decide), if_neg (by decide)]
theorem bytesM_small {r : Int} {m : Mk} {k : Nat} (h : GoodM r m k) : (bytesM m).length ≤ 704 * k + 8 := by
  rw [bytesM_len]
  have h1 := h.data
  have h2 := h.places
  omega
end Go.Proofs.YtaonjmkfbfhanaaDoor.Bk
namespace Go.Proofs.YtaonjmkfbfhanaaDoor.QBo
open Go.Proofs.YtaonjmkfbfhanaaDoor.Own
open Go.RowKit Go.Proofs.YtaonjmkfbfhanaaDoorW.PrintWords Go.Proofs.YtaonjmkfbfhanaaDoorW.PrintLast Go.Proofs.YtaonjmkfbfhanaaDoorW.PrintMore
attribute [local go_sem] max2_int min2_int max_two min_two max_three min_three max_four min_four   -- for this text's walks alone
set_option linter.unusedVariables false
set_option linter.unusedSimpArgs false
mutual
def screeroom_Count_Entries.l0 : Nat → List (S30) → Int → Int → Option (Int)
  | 0, _, _, _ => none
  | k + 1, x1, x4, x1000 => if x4 < (x1.length : Int) then ((screeroom_Count_Ok.f x1000).bind fun bt405 => (screeroom_Count_Entries.j1 k x1 x4 bt405.1 bt405.2)) else (screeroom_Count_Entries.j1 k x1 x4 false x1000)
def screeroom_Count_Entries.j1 : Nat → List (S30) → Int → Bool → Int → Option (Int)
  | 0, _, _, _, _ => none
  | k + 1, x1, x4, x12, x1000 => if x12 = true then (if 0 ≤ x4 then (if x4 < (x1.length : Int) then ((screeroom_Count_Text.f x1000 ((rd_T30 x1 x4).f0)).bind fun t408 => ((screeroom_Count_Add.f t408 (((rd_T30 x1 x4).f3).size : Int)).bind fun bt410 => (screeroom_Count_Entries.l0 k x1 (wrap64 (x4 + 1)) bt410.2))) else (none)) else (none)) else (some x1000)
end
def screeroom_Count_Entries.f (k : Nat) (s0_0 : Int) (l1 : List (S30)) : Option (Int) := screeroom_Count_Entries.l0 k l1 0 s0_0
theorem screeroom_Count_Entries.mono_l : ∀ k, (∀ y0 y1 y2, LeO (screeroom_Count_Entries.l0 k y0 y1 y2) (screeroom_Count_Entries.l0 (k + 1) y0 y1 y2)) ∧ (∀ y0 y1 y2 y3, LeO (screeroom_Count_Entries.j1 k y0 y1 y2 y3) (screeroom_Count_Entries.j1 (k + 1) y0 y1 y2 y3))
  | 0 => ⟨fun _ _ _ r h => by simp [screeroom_Count_Entries.l0] at h, fun _ _ _ _ r h => by simp [screeroom_Count_Entries.j1] at h⟩
  | k + 1 => by
    obtain ⟨ih0, ih1⟩ := screeroom_Count_Entries.mono_l k
    refine ⟨?_, ?_⟩
    · intro y0 y1 y2
      unfold screeroom_Count_Entries.l0
      repeat' first
      | (with_reducible exact ih0 _ _ _)
      | (with_reducible exact ih1 _ _ _ _)
      | (with_reducible exact LeO.refl _)
      | (with_reducible exact LeO.none _)
      | (with_reducible refine LeO.ite ?_ ?_)
      | (with_reducible refine LeO.bind ?_ (fun _ => ?_))
      | exact ih0 _ _ _
      | exact ih1 _ _ _ _
      | exact LeO.none _
      | refine LeO.ite ?_ ?_
      | refine LeO.bind ?_ (fun _ => ?_)
    · intro y0 y1 y2 y3
      unfold screeroom_Count_Entries.j1
      repeat' first
      | (with_reducible exact ih0 _ _ _)
      | (with_reducible exact ih1 _ _ _ _)
      | (with_reducible exact LeO.refl _)
      | (with_reducible exact LeO.none _)
      | (with_reducible refine LeO.ite ?_ ?_)
      | (with_reducible refine LeO.bind ?_ (fun _ => ?_))
      | exact ih0 _ _ _
      | exact ih1 _ _ _ _
      | exact LeO.none _
      | refine LeO.ite ?_ ?_
      | refine LeO.bind ?_ (fun _ => ?_)
theorem screeroom_Count_Entries.mono : ∀ a0 a1 k, LeO (screeroom_Count_Entries.f k a0 a1) (screeroom_Count_Entries.f (k + 1) a0 a1) := by
  intro a0 a1 k
  obtain ⟨ih0, ih1⟩ := screeroom_Count_Entries.mono_l k
  unfold screeroom_Count_Entries.f
  repeat' first
      | (with_reducible exact ih0 _ _ _)
      | (with_reducible exact ih1 _ _ _ _)
      | (with_reducible exact LeO.refl _)
      | (with_reducible exact LeO.none _)
      | (with_reducible refine LeO.ite ?_ ?_)
      | (with_reducible refine LeO.bind ?_ (fun _ => ?_))
      | exact ih0 _ _ _
      | exact ih1 _ _ _ _
      | exact LeO.none _
      | refine LeO.ite ?_ ?_
      | refine LeO.bind ?_ (fun _ => ?_)
def screelaw9_small.f (k : Nat) (l0 : List (S30)) : Option (Bool) := (screeroom_Many.f 32768).bind fun t412 => ((screeroom_Count_Entries.f k t412 l0).bind fun t414 => (if (l0.length : Int) ≤ 200 then ((screeroom_Count_Ok.f t414).bind fun bt415 => (some bt415.1)) else (some false)))
theorem screelaw9_small.mono : ∀ a0 k, LeO (screelaw9_small.f k a0) (screelaw9_small.f (k + 1) a0) := by
  intro a0 k
  unfold screelaw9_small.f
  repeat' first
      | (with_reducible exact screeroom_Count_Entries.mono _ _ _)
      | (with_reducible exact LeO.refl _)
      | (with_reducible exact LeO.none _)
      | (with_reducible refine LeO.ite ?_ ?_)
      | (with_reducible refine LeO.bind ?_ (fun _ => ?_))
      | exact screeroom_Count_Entries.mono _ _ _
      | exact LeO.none _
      | refine LeO.ite ?_ ?_
      | refine LeO.bind ?_ (fun _ => ?_)
def screeroom_Count_Chunks.l0 : Nat → List (List Int) → Int → Int → Option (Int)
  | 0, _, _, _ => none
  | k + 1, x1, x4, x1000 => if x4 < (x1.length : Int) then ((screeroom_Count_Ok.f x1000).bind fun bt427 => (if bt427.1 = true then (if 0 ≤ x4 then ((screeroom_Count_Add.f bt427.2 (wrap64 (1 + ((rd_L1 x1 x4).length : Int)))).bind fun bt430 => (screeroom_Count_Chunks.l0 k x1 (wrap64 (x4 + 1)) bt430.2)) else (none)) else (some bt427.2))) else (some x1000)
def screeroom_Count_Chunks.f (k : Nat) (s0_0 : Int) (l1 : List (List Int)) : Option (Int) := screeroom_Count_Chunks.l0 k l1 0 s0_0
theorem screeroom_Count_Chunks.mono_l : ∀ k, (∀ y0 y1 y2, LeO (screeroom_Count_Chunks.l0 k y0 y1 y2) (screeroom_Count_Chunks.l0 (k + 1) y0 y1 y2))
  | 0 => fun _ _ _ r h => by simp [screeroom_Count_Chunks.l0] at h
  | k + 1 => by
    have ih0 := screeroom_Count_Chunks.mono_l k
    · intro y0 y1 y2
      unfold screeroom_Count_Chunks.l0
      repeat' first
      | (with_reducible exact ih0 _ _ _)
      | (with_reducible exact LeO.refl _)
      | (with_reducible exact LeO.none _)
      | (with_reducible refine LeO.ite ?_ ?_)
      | (with_reducible refine LeO.bind ?_ (fun _ => ?_))
      | exact ih0 _ _ _
      | exact LeO.none _
      | refine LeO.ite ?_ ?_
      | refine LeO.bind ?_ (fun _ => ?_)
theorem screeroom_Count_Chunks.mono : ∀ a0 a1 k, LeO (screeroom_Count_Chunks.f k a0 a1) (screeroom_Count_Chunks.f (k + 1) a0 a1) := by
  intro a0 a1 k
  have ih0 := screeroom_Count_Chunks.mono_l k
  unfold screeroom_Count_Chunks.f
  repeat' first
      | (with_reducible exact ih0 _ _ _)
      | (with_reducible exact LeO.refl _)
      | (with_reducible exact LeO.none _)
      | (with_reducible refine LeO.ite ?_ ?_)
      | (with_reducible refine LeO.bind ?_ (fun _ => ?_))
      | exact ih0 _ _ _
      | exact LeO.none _
      | refine LeO.ite ?_ ?_
      | refine LeO.bind ?_ (fun _ => ?_)
set_option maxHeartbeats 8000000 in
set_option maxRecDepth 100000 in
theorem screeroom_Count_Chunks.calls (k : Nat) (g : Nat) (s0_0 : Int) (A1 : Option Addr) (c1 : Nat) (l1 : List (List Int)) (r : Int) (w0 w : World) (hI : IsS91 w0 w g s0_0) (hB : Below w0.heap.size w0 w) (hr1 : ∀ W_, KeepBut w W_ g none → Kd.C (Kd.slice 5 (Kd.int .u8)) W_ A1 l1.length l1) (hc1 : l1.length ≤ c1) (h : screeroom_Count_Chunks.f k s0_0 l1 = some r) :
    Calls Tryd.prog 14 #[.pointer (some ⟨g, 0, none⟩), .slice A1 l1.length c1] w fun e w' => e = .returned (.tuple #[]) ∧ IsS91 w0 w' g r ∧ Below w0.heap.size w0 w' ∧ KeepBut w w' g none := by
  have HR1 := Aside0.mk hr1
  have HC1 := Aside0.mk hc1
  clear hr1 hc1
  have HI0 := Aside0.mk hI
  have HK := Aside0.mk (KeepBut.refl w g none)
  have HL := Aside0.mk hB.size
  clear hI
  have HW0 := Aside0.mk hB.size
  have HB := Aside0.mk hB
  clear hB
  have H : (screeroom_Count_Chunks.l0 k l1 0 s0_0) = some r := h
  clear h
  have H' := Aside0.mk H
  clear H
  go_enter Tryd.func14, Tryd.ntmps14
  go_wp2
  go_loopg [4] k (fun kq v4 w' => ∃ (x4_1 : Int) (x1000_1 : Int), v4 = .int .i64 x4_1 ∧ Aside0 (screeroom_Count_Chunks.l0 kq l1 x4_1 x1000_1 = some r) ∧ Aside0 (kq ≤ k) ∧ Aside0 (IsS91 w0 w' g x1000_1) ∧ Aside0 (KeepBut w w' g none) ∧ Aside0 (Below w0.heap.size w0 w'))
  case atStart => exact ⟨(0), (s0_0), (by first | rfl | (simp; done) | (simp [*]; done)), H', ⟨Nat.le_refl _⟩, ⟨by repeat (first | (with_reducible first | exact HI0.out | apply IsS91.alloc | apply IsS91.drewN | apply IsS91.drew | apply IsS91.set_0) | exact HI0.out)⟩, ⟨by repeat (first | (with_reducible first | exact HK.out | apply KeepBut.set_ | apply keep_drewN | apply keep_drew | apply keep_alloc) | exact HK.out)⟩, ⟨by repeat (first | (with_reducible first | exact HB.out | apply below_alloc | apply pw_below_drewN | apply below_drew1 | refine below_set ?_ (IsS91.ge HI0.out)) | exact HB.out)⟩⟩
  case round =>
    clear H'
    try clear c1
    try clear p2
    obtain ⟨x4_1, x1000_1, rfl, HA, HK1, HI0, HK, HB⟩ := hrel
    cases gk with
    | zero => exact absurd HA.out (by simp [screeroom_Count_Chunks.l0])
    | succ k1 =>
      have H := HA.out
      clear HA
      simp only [screeroom_Count_Chunks.l0] at H
      by_cases c3 : x4_1 < (l1.length : Int)
      · rw [if_pos c3] at H
        have c3b0 : decide (x4_1 < (l1.length : Int)) = true := decide_eq_true c3
        clear c3
        replace H := Option.bind_eq_some_iff.mp H
        obtain ⟨⟨t427, t428⟩, A40, H⟩ := H
        replace H : (if t427 = true then (if 0 ≤ x4_1 then ((screeroom_Count_Add.f t428 (wrap64 (1 + ((rd_L1 l1 x4_1).length : Int)))).bind fun bt430 => (screeroom_Count_Chunks.l0 k1 l1 (wrap64 (x4_1 + 1)) bt430.2)) else (none)) else (some t428)) = some r := H
        have A4 := Aside0.mk A40
        clear A40
        by_cases c5 : t427 = true
        · subst c5
          have H1 : (if 0 ≤ x4_1 then ((screeroom_Count_Add.f t428 (wrap64 (1 + ((rd_L1 l1 x4_1).length : Int)))).bind fun bt430 => (screeroom_Count_Chunks.l0 k1 l1 (wrap64 (x4_1 + 1)) bt430.2)) else (none)) = some r := by rw [if_pos rfl] at H; exact H
          clear H
          have H := H1
          clear H1
          by_cases c6 : 0 ≤ x4_1
          · rw [if_pos c6] at H
            have c6b0 : decide (0 ≤ x4_1) = true := decide_eq_true c6
            clear c6
            replace H := Option.bind_eq_some_iff.mp H
            obtain ⟨⟨t430, t431⟩, A70, H⟩ := H
            replace H : (screeroom_Count_Chunks.l0 k1 l1 (wrap64 (x4_1 + 1)) t431) = some r := H
            have A7 := Aside0.mk A70
            clear A70
            have H' := Aside0.mk H
            clear H
            go_wp2_with (first | (go_at_call 15; (with_reducible refine (screeroom_Count_Ok.calls g x1000_1 true t428 w0 _ ?side1 ?side2 A4.out).mono ?_); (case side1 => repeat (first | (with_reducible first | exact HI0.out | apply IsS91.alloc | apply IsS91.drewN | apply IsS91.drew | apply IsS91.set_0) | exact HI0.out)); (case side2 => repeat (first | (with_reducible first | exact HB.out | apply below_alloc | apply pw_below_drewN | apply below_drew1 | refine below_set ?_ (IsS91.ge HI0.out)) | exact HB.out)); rintro e w8 ⟨rfl, hi, hb, hk⟩; have n0_ := Aside0.mk (KeepBut.trans (by repeat (first | (with_reducible first | exact HK.out | apply KeepBut.set_ | apply keep_drewN | apply keep_drew | apply keep_alloc) | exact HK.out)) hk (.inl rfl)); have n1_ := Aside0.mk (hb); have n2_ := Aside0.mk (hi); clear HK; clear HB; clear HI0; have HK := n0_; have HB := n1_; have HI0 := n2_; clear n0_ n1_ n2_; (try clear hb); (try clear hb2); (try clear hk); (try clear hi); have p429 : 0 ≤ (x4_1 : Int) := of_decide_eq_true (by first | (with_reducible assumption) | assumption); have q429 : x4_1 < (l1.length : Int) := of_decide_eq_true (by first | (with_reducible assumption) | assumption); obtain ⟨ad429, A429_0, c429_0, e429, hx429_0, hl429_0, hi429_0⟩ := at_L1 (Kd.C_foot_now HR1.out HK.out) x4_1 p429 q429; cases e429; have HR429_0 := Aside0.mk hi429_0; have HC429_0 := Aside0.mk hl429_0; clear hi429_0 hl429_0; replace p429 := eq_true p429; replace q429 := eq_true q429) | ((with_reducible refine gate_callee (f := 38) rfl ?_); refine goesL_ (some 22) rfl rfl Tryd.func38 (by kernel_rfl) rfl #[.pointer (some ⟨g, 0, none⟩), .int .i64 (wrap64 (1 + ((rd_L1 l1 x4_1).length : Int)))] rfl (by (try simp only [List.map_toArray, List.map_cons, List.map_nil]); first | done | rfl | (simp only [List.length_drop, List.length_take]; rfl)) ?_; (with_reducible refine (screeroom_Count_Add.calls g t428 (wrap64 (1 + ((rd_L1 l1 x4_1).length : Int))) t430 t431 w0 _ ?side1 ?side2 A7.out).mono ?_); (case side1 => repeat (first | (with_reducible first | exact HI0.out | apply IsS91.alloc | apply IsS91.drewN | apply IsS91.drew | apply IsS91.set_0) | exact HI0.out)); (case side2 => repeat (first | (with_reducible first | exact HB.out | apply below_alloc | apply pw_below_drewN | apply below_drew1 | refine below_set ?_ (IsS91.ge HI0.out)) | exact HB.out)); rintro e w9 ⟨rfl, hi, hb, hk⟩; refine ⟨_, rfl, ?_⟩; have n0_ := Aside0.mk (KeepBut.trans (by repeat (first | (with_reducible first | exact HK.out | apply KeepBut.set_ | apply keep_drewN | apply keep_drew | apply keep_alloc) | exact HK.out)) hk (.inl rfl)); have n1_ := Aside0.mk (hb); have n2_ := Aside0.mk (hi); clear HK; clear HB; clear HI0; have HK := n0_; have HB := n1_; have HI0 := n2_; clear n0_ n1_ n2_; (try clear hb); (try clear hb2); (try clear hk); (try clear hi)))
            go_roundg k1
            case measure => have := HK1.out; omega
            case rel => exact ⟨(wrap64 (x4_1 + 1)), (t431), (by first | rfl | (simp; done) | (simp [*]; done)), H', ⟨by have := HK1.out; omega⟩, ⟨by repeat (first | (with_reducible first | exact HI0.out | apply IsS91.alloc | apply IsS91.drewN | apply IsS91.drew | apply IsS91.set_0) | exact HI0.out)⟩, ⟨by repeat (first | (with_reducible first | exact HK.out | apply KeepBut.set_ | apply keep_drewN | apply keep_drew | apply keep_alloc) | exact HK.out)⟩, ⟨by repeat (first | (with_reducible first | exact HB.out | apply below_alloc | apply pw_below_drewN | apply below_drew1 | refine below_set ?_ (IsS91.ge HI0.out)) | exact HB.out)⟩⟩
          · rw [if_neg c6] at H
            exact absurd H (by simp)
        · replace c5 := Bool.eq_false_iff.mpr c5
          subst c5
          have H1 : (some t428) = some r := by rw [if_neg (show ¬ (false = true) by decide)] at H; exact H
          clear H
          have H := H1
          clear H1
          obtain rfl := Option.some.inj H
          go_wp2_with (first | (go_at_call 15; (with_reducible refine (screeroom_Count_Ok.calls g x1000_1 false t428 w0 _ ?side1 ?side2 A4.out).mono ?_); (case side1 => repeat (first | (with_reducible first | exact HI0.out | apply IsS91.alloc | apply IsS91.drewN | apply IsS91.drew | apply IsS91.set_0) | exact HI0.out)); (case side2 => repeat (first | (with_reducible first | exact HB.out | apply below_alloc | apply pw_below_drewN | apply below_drew1 | refine below_set ?_ (IsS91.ge HI0.out)) | exact HB.out)); rintro e w10 ⟨rfl, hi, hb, hk⟩; have n0_ := Aside0.mk (KeepBut.trans (by repeat (first | (with_reducible first | exact HK.out | apply KeepBut.set_ | apply keep_drewN | apply keep_drew | apply keep_alloc) | exact HK.out)) hk (.inl rfl)); have n1_ := Aside0.mk (hb); have n2_ := Aside0.mk (hi); clear HK; clear HB; clear HI0; have HK := n0_; have HB := n1_; have HI0 := n2_; clear n0_ n1_ n2_; (try clear hb); (try clear hb2); (try clear hk); (try clear hi)))
          first | go_end0 | ((try simp only [Exit.inBlock, Exit.then]); refine bodyPost_ret (results_none rfl _ _ _) rfl ?_)
          exact ⟨by first | rfl | (simp [errW_none, errW_some] <;> rfl) | (simp [*, errW_none, errW_some] <;> rfl), by repeat (first | (with_reducible first | exact HI0.out | apply IsS91.alloc | apply IsS91.drewN | apply IsS91.drew | apply IsS91.set_0) | exact HI0.out), by repeat (first | (with_reducible first | exact HB.out | apply below_alloc | apply pw_below_drewN | apply below_drew1 | refine below_set ?_ (IsS91.ge HI0.out)) | exact HB.out), by repeat (first | (with_reducible first | exact HK.out | apply KeepBut.set_ | apply keep_drewN | apply keep_drew | apply keep_alloc) | exact HK.out)⟩
      · rw [if_neg c3] at H
        have c3b0 : decide (x4_1 < (l1.length : Int)) = false := decide_eq_false c3
        clear c3
        obtain rfl := Option.some.inj H
        go_wp2
        first | go_end0 | ((try simp only [Exit.inBlock, Exit.then]); refine bodyPost_ret (results_none rfl _ _ _) rfl ?_)
        exact ⟨by first | rfl | (simp [errW_none, errW_some] <;> rfl) | (simp [*, errW_none, errW_some] <;> rfl), by repeat (first | (with_reducible first | exact HI0.out | apply IsS91.alloc | apply IsS91.drewN | apply IsS91.drew | apply IsS91.set_0) | exact HI0.out), by repeat (first | (with_reducible first | exact HB.out | apply below_alloc | apply pw_below_drewN | apply below_drew1 | refine below_set ?_ (IsS91.ge HI0.out)) | exact HB.out), by repeat (first | (with_reducible first | exact HK.out | apply KeepBut.set_ | apply keep_drewN | apply keep_drew | apply keep_alloc) | exact HK.out)⟩
def screelaw9_place.f (a0 : Int) (a1 : Int) : Option (Int) := if a1 = 0 then (none) else (if (Int.tmod a0 a1) < 0 then (some (wrap64 ((Int.tmod a0 a1) + a1))) else (some (Int.tmod a0 a1)))
end Go.Proofs.YtaonjmkfbfhanaaDoor.QBo
namespace Go.Proofs.YtaonjmkfbfhanaaDoor.SmE
open Go.RowKit Go.Proofs.YtaonjmkfbfhanaaDoorW.PrintWords Go.Proofs.YtaonjmkfbfhanaaDoor.Own Go.Proofs.YtaonjmkfbfhanaaDoor.Wk Go.Proofs.YtaonjmkfbfhanaaDoor.QBo
open Go.Proofs.YtaonjmkfbfhanaaDoor.Bk (En kE)
set_option linter.unusedVariables false
/-- A state of the count: so many parts more, or none. -/
def addC (s n : Int) : Int := if s ≥ 0 then s - n else s
def In (s : Int) : Prop := -1000000000000000 ≤ s ∧ s ≤ 32768
theorem addC_in {s n : Int} (h : In s) (h0 : 0 ≤ n) (h1 : n ≤ 140737488355328) : In (addC s n) := by
  unfold In at *; unfold addC; split <;> omega
theorem wrap_in {a : Int} (h0 : -9223372036854775808 ≤ a) (h1 : a < 9223372036854775808) : wrap64 a = a := by unfold wrap64; omega
theorem add_eq {s n : Int} (h : In s) (h0 : 0 ≤ n) (h1 : n ≤ 140737488355328) : ∃ b, screeroom_Count_Add.f s n = some (b, addC s n) := by
  unfold screeroom_Count_Add.f addC
  unfold In at h
  split
  · rw [wrap_in (by omega) (by omega)]; exact ⟨_, rfl⟩
  · exact ⟨_, rfl⟩
end Go.Proofs.YtaonjmkfbfhanaaDoor.SmE
namespace Go.Proofs.YtaonjmkfbfhanaaDoor
open Go.ChangeShapes Go.WideShapes Go.ChangeAt Go.RowKit
theorem bound {H : Type} {l : List (DataW H)} (hk : Rows.uptoSmall H l = true) : Rows.uptoBulkAll l ≤ 1048576 := of_decide_eq_true hk
end Go.Proofs.YtaonjmkfbfhanaaDoor
namespace Go.Proofs.YtaonjmkfbfhanaaDoor
namespace Opn
open Go.ChangeShapes Go.WideShapes Go.ChangeAt Go.RowKit Go.Deep
open YtaonjmkfbfhanaaDoorW.PrintWords
set_option linter.unusedVariables false
/-- The values of a type that came in, read as kind d: what holds of them; how much they bulk. -/
def Opens {H : Type} (enc : TypeId × Value → H) (P : Program) (W : World) (e : TypeId) {α : Type} (d : Kd α) (G : α → Prop) (wt : α → Nat) : Prop :=
  ∀ (base : Nat) (held : Bool) (fuel : Nat) (cs : List Value) (x : DataW H × List MemPlace), DataW.trod enc P W base (fun _ => true) held fuel e cs = some x → (∀ n ∈ x.1.weights P e, n ≤ 140737488351232) → ∃ v, d.K W v cs ∧ G v ∧ wt v ≤ Rows.uptoBulk x.1
section
variable {H : Type} {enc : TypeId × Value → H} {P : Program} {W : World} {t e : TypeId}
theorem opens_int {k : IntKind} (he : P.underlying e = some (.int k)) : Opens enc P W e (Kd.int k) (fun n => (Lit.int k n).wf = true) (fun _ => 1) := by
  intro base held fuel cs x h hw
  obtain ⟨n, rfl, rfl, hwf⟩ := DataW.trod_int he h
  exact ⟨n, rfl, hwf, by simp [Rows.uptoBulk]⟩
theorem opens_str (he : P.underlying e = some .string) : Opens enc P W e Kd.string (fun s => s.size ≤ 140737488351232) (fun s => s.size + 1) := by
  intro base held fuel cs x h hw
  obtain ⟨s, rfl, rfl, hm⟩ := DataW.trod_string he h
  have hl : s.data.toList.length = s.size := Array.length_toList
  refine ⟨s, rfl, ?_, by simp only [Rows.uptoBulk, hl]; exact Nat.le_refl _⟩
  have := hw s.data.toList.length (by simp [DataW.weights])
  rw [hl] at this
  exact this
theorem list_of {α : Type} (n : Nat) (Q : Nat → α → Prop) (h : ∀ i, i < n → ∃ v, Q i v) : ∃ l : List α, l.length = n ∧ ∀ i v, l[i]? = some v → Q i v := by
  induction n with
  | zero => exact ⟨[], rfl, fun i v hv => by simp at hv⟩
  | succ n ih =>
    obtain ⟨l, hl, hq⟩ := ih (fun i hi => h i (by omega))
    obtain ⟨v, hv⟩ := h n (by omega)
    refine ⟨l ++ [v], by simp [hl], fun i u hu => ?_⟩
    by_cases hi : i < l.length
    · rw [List.getElem?_append_left hi] at hu
      exact hq i u hu
    · rw [List.getElem?_append_right (by omega)] at hu
      have h0 : i - l.length = 0 := by
        have := (List.getElem?_eq_some_iff.1 hu).1
        simp at this
        omega
      rw [h0] at hu
      simp at hu
      have hin : i = n := by omega
      subst hu
      subst hin
      exact hv
theorem bulk_all (l : List (DataW H)) : Rows.uptoBulkAll l = (l.map Rows.uptoBulk).sum := by
  induction l with
  | nil => simp [Rows.uptoBulkAll]
  | cons d l ih => simp [Rows.uptoBulkAll, ih]
theorem weights_all {d : DataW H} {l : List (DataW H)} (hd : d ∈ l) : ∀ n ∈ d.weights P e, n ∈ DataW.weightsAll P e l := by
  induction l with
  | nil => cases hd
  | cons y l ih =>
    intro n hn
    simp only [DataW.weightsAll, List.mem_append]
    rcases List.mem_cons.1 hd with rfl | hd
    · exact .inl hn
    · exact .inr (ih hd n hn)
theorem sum_bulk {α : Type} (wt : α → Nat) (l : List α) : ∀ (D : Nat → DataW H) (o : Nat), (∀ i v, l[i]? = some v → wt v ≤ Rows.uptoBulk (D (o + i))) → (l.map wt).sum ≤ (((List.range l.length).map fun i => D (o + i)).map Rows.uptoBulk).sum := by
  induction l with
  | nil => intro D o h; simp
  | cons x l ih =>
    intro D o h
    have h0 := h 0 x rfl
    have h1 := ih D (o + 1) (fun i v hv => by rw [Nat.add_assoc, Nat.add_comm 1]; exact h (i + 1) v (by simpa using hv))
    simp only [List.map_cons, List.sum_cons, List.length_cons, List.range_succ_eq_map, List.map_map]
    simp only [List.map_map] at h1
    have e : (Rows.uptoBulk ∘ (fun i => D (o + i)) ∘ Nat.succ) = (Rows.uptoBulk ∘ fun i => D (o + 1 + i)) := by
      funext i
      simp only [Function.comp]
      rw [show o + i.succ = o + 1 + i by omega]
    rw [e]
    simp only [Nat.add_zero] at h0 ⊢
    omega
theorem opens_slice {α : Type} {d : Kd α} {G : α → Prop} {wt : α → Nat} (ht : P.underlying t = some (.slice e)) (hc : P.cellsOf e = d.sz) (h : Opens enc P W e d G wt) :
    Opens enc P W t (Kd.slice e d) (fun l => l.length * P.bytesOf e ≤ 140737488351232 ∧ ∀ x ∈ l, G x) (fun l => (l.map wt).sum + 1) := by
  intro base held fuel cs x hx hw
  rcases open_slice ht hx with ⟨rfl, rfl⟩ | ⟨a, len, cap, m, n, D, Pl, rfl, hb, hl, hm, hmm, rfl, hi⟩
  · exact ⟨[], ⟨none, 0, rfl, Nat.le_refl _, Kd.C_nil _ _⟩, ⟨by simp, fun x hx => by cases hx⟩, by simp [Rows.uptoBulk]⟩
  · simp only [if_true] at hmm
    subst hmm
    have hwe : ∀ i, i < m → ∀ q ∈ (D i).weights P e, q ≤ 140737488351232 := by
      intro i him q hq
      refine hw q ?_
      simp only [DataW.weights, ht, List.mem_cons, List.mem_append]
      right
      by_cases hil : i < len
      · exact .inl (weights_all (List.mem_map.2 ⟨i, List.mem_range.2 hil, rfl⟩) q hq)
      · exact .inr (weights_all (List.mem_map.2 ⟨i - len, List.mem_range.2 (by omega), by rw [show len + (i - len) = i by omega]⟩) q hq)
    obtain ⟨l, hll, hq⟩ := list_of len (fun i v => ∃ cs', W.cells? base (a.add (i * P.cellsOf e)) (P.cellsOf e) = some cs' ∧ d.K W v cs' ∧ G v ∧ wt v ≤ Rows.uptoBulk (D i)) (fun i hil => by
      obtain ⟨cs', h1, h2⟩ := hi i (by omega)
      obtain ⟨v, k1, k2, k3⟩ := h base held n cs' (D i, Pl i) h2 (hwe i (by omega))
      exact ⟨v, cs', h1, k1, k2, k3⟩)
    refine ⟨l, ⟨some a, m, by rw [hll], by omega, rfl, by unfold maxLen at hm; omega, fun h0 => ⟨a, rfl, fun j p hp => ?_⟩⟩, ⟨?_, fun v hv => ?_⟩, ?_⟩
    · obtain ⟨cs', h1, k1, k2, k3⟩ := hq j p hp
      obtain ⟨_, hcl, hat⟩ := World.cells?_some h1
      rw [hc] at hcl hat
      refine ⟨cs', hcl, k1, fun i u hu => ?_⟩
      have hil : i < d.sz := by rw [← hcl]; exact (List.getElem?_eq_some_iff.1 hu).1
      have := hat i hil
      rw [hu, Go.Deep.add_add] at this
      exact this
    · have := hw ((len + (m - len)) * P.bytesOf e) (by simp [DataW.weights, ht])
      rw [hll]
      refine Nat.le_trans (Nat.mul_le_mul_right _ ?_) this
      omega
    · obtain ⟨i, hiv⟩ := List.getElem?_of_mem hv
      obtain ⟨cs', h1, k1, k2, k3⟩ := hq i v hiv
      exact k2
    · have hs := sum_bulk wt l D 0 (fun i v hv => by
        obtain ⟨cs', h1, k1, k2, k3⟩ := hq i v hv
        rw [Nat.zero_add]
        exact k3)
      simp only [Nat.zero_add] at hs
      rw [hll] at hs
      have e0 : (fun i => D i) = D := rfl
      rw [e0] at hs
      simp only [Rows.uptoBulk, bulk_all]
      omega
/-- A slice that is an argument. -/
theorem slice_arg {α : Type} {d : Kd α} {G : List α → Prop} {wt : List α → Nat} {base : Nat} {held : Bool} {a : Option Addr} {len cap : Nat} {da : DataW H} {ps : List MemPlace} {ts : List TypeId} {ds : List (DataW H)} {j : Nat} (ho : Opens enc P W t (Kd.slice e d) G wt)
    (hsz : (DataW.weightsEach P ts ds).all (· ≤ reachBytes) = true) (hts : ts[j]? = some t) (hds : ds[j]? = some da) (h : DataW.Trod enc P W base (fun _ => true) held t (.slice a len cap) da ps) :
    ∃ l : List α, len = l.length ∧ d.C W a l.length l ∧ l.length ≤ cap ∧ G l ∧ wt l ≤ Rows.uptoBulk da := by
  obtain ⟨fuel, hf⟩ := h
  obtain ⟨l, ⟨A, c, he, hlc, hC⟩, hg, hb⟩ := ho base held fuel _ _ hf (fun n hn => by
    exact of_decide_eq_true (List.all_eq_true.1 hsz n (DataW.weights_mem_each hts hds n hn)))
  simp only [Value.cells, List.cons.injEq, and_true, Value.slice.injEq] at he
  obtain ⟨rfl, rfl, rfl⟩ := he
  exact ⟨l, rfl, hC, hlc, hg, hb⟩
end
end Opn
end Go.Proofs.YtaonjmkfbfhanaaDoor
namespace Go.Proofs.YtaonjmkfbfhanaaDoor
namespace Opn
open Go.ChangeShapes Go.WideShapes Go.ChangeAt Go.RowKit Go.Deep
open YtaonjmkfbfhanaaDoorW.PrintWords
set_option linter.unusedVariables false
section
variable {H : Type} {enc : TypeId × Value → H} {P : Program} {W : World} {t : TypeId}
end
section
variable {H : Type} {enc : TypeId × Value → H} {W : World}
abbrev En := QBo.S30
end
end Opn
end Go.Proofs.YtaonjmkfbfhanaaDoor
namespace Go.Proofs.YtaonjmkfbfhanaaDoor.Bk
open Go.RowKit Go.Proofs.YtaonjmkfbfhanaaDoorW.PrintWords Go.Proofs.YtaonjmkfbfhanaaDoor.Own Go.Proofs.YtaonjmkfbfhanaaDoor.G Go.Proofs.YtaonjmkfbfhanaaDoor.Wk Go.Proofs.YtaonjmkfbfhanaaDoor.QBo
set_option linter.unusedVariables false
/-- What a maker has of few entries. -/
structure MadeOk (r : Int) (L I : List En) (M : Mk) : Prop where
  adds : addsM (newM r) I = some M
  len : I.length ≤ L.length
  en : ∀ e ∈ I, EnW e
  good : GoodM r M I.length
  again : madeM (newM r) I = (I, M)
theorem MadeOk.bytes {r : Int} {L I : List En} {M : Mk} (h : MadeOk r L I M) (hl : L.length ≤ 200) : Bytes (bytesM M) ∧ (bytesM M).length ≤ 140808 ∧ openB (bytesM M) = some (I, rsRead r I) ∧ M.data.length < 1073741824 := by
  have h1 := h.len
  have h2 := bytesM_small h.good
  have h3 := h.good.data
  have h4 := h.good.places
  refine ⟨bytesM_bytes h.good.bytes (fun p hp => ?_) (by omega), by omega, open_made r I h.adds h.en (by omega), by omega⟩
  have := h.good.small p hp
  omega
end Go.Proofs.YtaonjmkfbfhanaaDoor.Bk
namespace Go.Proofs.YtaonjmkfbfhanaaDoor.Tn
open Go.RowKit Go.Proofs.YtaonjmkfbfhanaaDoorW.PrintWords Go.Proofs.YtaonjmkfbfhanaaDoor.Own Go.Proofs.YtaonjmkfbfhanaaDoor.G Go.Proofs.YtaonjmkfbfhanaaDoor.Wk Go.Proofs.YtaonjmkfbfhanaaDoor.QBo Go.Proofs.YtaonjmkfbfhanaaDoor.Bk Go.Proofs.YtaonjmkfbfhanaaDoor.Rf
set_option linter.unusedVariables false
def addC (s n : Int) : Int := if s ≥ 0 then s - n else s
def cntC : Int → List (List Int) → Int
  | s, [] => s
  | s, x :: l => if s ≥ 0 then cntC (addC s (1 + (x.length : Int))) l else s
def In (s : Int) : Prop := -1000000000000000 ≤ s ∧ s ≤ 131072
theorem addC_in {s n : Int} (h : In s) (h0 : 0 ≤ n) (h1 : n ≤ 140737488355328) : In (addC s n) := by
  unfold In at *; unfold addC; split <;> omega
theorem add_eq {s n : Int} (h : In s) (h0 : 0 ≤ n) (h1 : n ≤ 140737488355328) : ∃ b, screeroom_Count_Add.f s n = some (b, addC s n) := by
  unfold screeroom_Count_Add.f addC
  unfold In at h
  split
  · rw [show wrap64 (s - n) = s - n by unfold wrap64; omega]; exact ⟨_, rfl⟩
  · exact ⟨_, rfl⟩
theorem chunks_ev (l : List (List Int)) (hl : l.length ≤ 140737488351232) (hf : ∀ x ∈ l, x.length ≤ 140737488351232) (d : Nat) : ∀ (i : Nat) (s : Int), i + d = l.length → In s → Ev (fun k => screeroom_Count_Chunks.l0 k l (i : Int) s) (cntC s (l.drop i)) := by
  induction d with
  | zero =>
    intro i s hi hs
    refine Ev.step (f := fun _ => some s) (fun k => ?_) ?_
    · rw [screeroom_Count_Chunks.l0, if_neg (by omega)]
    · rw [List.drop_of_length_le (by omega)]; exact Ev.now _
  | succ d ih =>
    intro i s hi hs
    have hlt : i < l.length := by omega
    have hx : (rd_L1 l (i : Int)) = l[i] := by simp [rd_L1, List.getD_eq_getElem?_getD, hlt]
    rw [List.drop_eq_getElem_cons hlt]
    unfold cntC
    by_cases h0 : s ≥ 0
    · rw [if_pos h0]
      have hm := hf l[i] (List.getElem_mem hlt)
      have hs1 := addC_in hs (n := 1 + (l[i].length : Int)) (by omega) (by omega)
      obtain ⟨b, hb⟩ := add_eq hs (n := 1 + (l[i].length : Int)) (by omega) (by omega)
      refine Ev.step (fun k => ?_) (ih (i + 1) _ (by omega) hs1)
      rw [screeroom_Count_Chunks.l0, if_pos (by omega)]
      unfold screeroom_Count_Ok.f
      rw [decide_eq_true h0, Option.bind_some, if_pos rfl, if_pos (by omega), hx, show wrap64 (1 + (l[i].length : Int)) = 1 + (l[i].length : Int) by unfold wrap64; omega, hb, Option.bind_some, ww i (by omega)]
    · rw [if_neg h0]
      refine Ev.step (f := fun _ => some s) (fun k => ?_) (Ev.now _)
      rw [screeroom_Count_Chunks.l0, if_pos (by omega)]
      unfold screeroom_Count_Ok.f
      rw [decide_eq_false h0, Option.bind_some, if_neg (by simp)]
theorem cntC_each {l : List (List Int)} : ∀ {s : Int}, 0 ≤ cntC s l → 0 ≤ s ∧ ∀ x ∈ l, (x.length : Int) ≤ s := by
  induction l with
  | nil => intro s h; exact ⟨h, fun x hx => by simp at hx⟩
  | cons x l ih =>
    intro s h
    unfold cntC at h
    by_cases h0 : s ≥ 0
    · rw [if_pos h0] at h
      obtain ⟨h1, h2⟩ := ih h
      have e1 : addC s (1 + (x.length : Int)) = s - (1 + (x.length : Int)) := by rw [addC, if_pos h0]
      rw [e1] at h1 h2
      refine ⟨h0, fun y hy => ?_⟩
      rcases List.mem_cons.1 hy with rfl | hy
      · omega
      · have := h2 y hy
        omega
    · rw [if_neg h0] at h
      omega
abbrev kCs : Kd (List Int) := Kd.slice 5 (Kd.int .u8)
theorem heapCs : Kd.Heap kCs := Kd.heap_slice _ (Kd.heap_int .u8)
theorem chunks_calls {w0 W : World} {g : Nat} {A : Option Addr} {n c : Nat} {G : List (List Int)} (hI : IsS91 w0 W g 131072) (hB : Below w0.heap.size w0 W) (h : Rd kCs w0 A n c G) (hG : G.length ≤ 140737488351232) (hl : ∀ x ∈ G, x.length ≤ 140737488351232) :
    Calls Tryd.prog 14 #[.pointer (some ⟨g, 0, none⟩), .slice A n c] W fun e w' => e = .returned (.tuple #[]) ∧ IsS91 w0 w' g (cntC 131072 G) ∧ Below w0.heap.size w0 w' ∧ KeepBut W w' g none := by
  obtain ⟨e1, h2, h3⟩ := h
  subst e1
  obtain ⟨k, hk⟩ := (chunks_ev G hG hl G.length 0 131072 (by omega) ⟨by decide, by decide⟩).rounds
  exact screeroom_Count_Chunks.calls k g 131072 A c G _ w0 W hI hB (Kd.C_foot_came heapCs h3 hB hI.2) h2 hk
structure Sh where
  g : Nat
  A : Option Addr
  n : Nat
  c : Nat
def shC (x : Sh) : List Value := [.pointer (some ⟨x.g, 0, none⟩), .slice x.A x.n x.c]
def kSh : Kd Sh where
  sz := 2
  E := []
  K := fun _ x cs => cs = shC x
  M := fun _ _ _ x cs => cs = shC x
  K_len := fun h => by rw [h]; rfl
  K_one := fun h u hu => by
    rw [h] at hu
    simp only [shC, List.mem_cons, List.not_mem_nil, or_false] at hu
    rcases hu with rfl | rfl <;> rfl
  K_below := fun _ h => h
  K_of_M := fun h => h
  M_mono := fun _ h => h
  M_bound := fun h => h
  M_move := fun _ h => h
  M_lower := fun _ h => h
theorem infoSh : (Tryd.prog.info? 48).map (fun i => (i.zero, i.size, i.bytes)) = some (some (.agg #[.pointer none, .slice none 0 0]), 2, 32) := by kernel_rfl
theorem at_Sh {W : World} {A : Option Addr} {n : Nat} {xs : List Sh} (h : Kd.C kSh W A n xs) (i : Nat) (hi : i < xs.length) : ∃ ad, A = some ad ∧ W.cell? (ad.add (i * 2)) = some (.pointer (some ⟨(xs[i]'hi).g, 0, none⟩)) ∧ W.cell? ⟨(ad.add (i * 2)).block, (ad.add (i * 2)).off + 1, none⟩ = some (.slice (xs[i]'hi).A (xs[i]'hi).n (xs[i]'hi).c) := by
  have hn := h.1
  obtain ⟨ad, c, e, _, hK, hc0⟩ := Kd.C_get h (⟨0, none, 0, 0⟩ : Sh) (i : Int) (by omega) (by omega)
  have hx : xs.getD (i : Int).toNat (⟨0, none, 0, 0⟩ : Sh) = xs[i]'hi := by simp [List.getD_eq_getElem?_getD, hi]
  rw [hx] at hK
  have hc : ∀ j u, c[j]? = some u → W.cell? (ad.add (i * 2 + j)) = some u := by
    intro j u hj
    have z := hc0 j u hj
    rw [Int.toNat_natCast] at z
    exact z
  obtain rfl : c = shC (xs[i]'hi) := hK
  exact ⟨ad, e, hc 0 _ rfl, by rw [← add_field _ _ 1 (by omega)]; exact hc 1 _ rfl⟩
/-- A block, and a list of the same entries, that stand apart. -/
def ShOk (W : World) (x : Sh) (L : List En) : Prop := ∃ (Ak : Option Addr) (nk ck R : Nat), W.heap[x.g]? = some (.cells #[.slice Ak nk ck, .int .i64 (R : Int)] 98 (0, 0)) ∧ kE.R 30 W 0 (fun _ => True) (.slice Ak nk ck) L ∧ kE.R 30 W 0 (fun _ => True) (.slice x.A x.n x.c) L ∧ 1 ≤ R ∧ R ≤ 1073741824 ∧ L.length ≤ 1000000 ∧ Taken L
theorem ShOk.below {W W' : World} {x : Sh} {L : List En} (h : ShOk W x L) (hb : Below W.heap.size W W') : ShOk W' x L := by
  obtain ⟨Ak, nk, ck, R, h1, h2, h3, h4⟩ := h
  exact ⟨Ak, nk, ck, R, (hb.block _ (blk_lt h1)).trans h1, Kd.R_below h2 hb, Kd.R_below h3 hb, h4⟩
theorem row_grown {W W1 : World} {v : Value} {es : List En} {row : Option Nat} (h : kE.R 30 W 0 (fun _ => True) v es) (hg : W.grownBy W1 row) (hr : ∀ k, row = some k → ∃ cs, W.heap[k]? = some (.cells cs 48 (0, 0))) : kE.R 30 W1 0 (fun _ => True) v es := by
  refine Kd.R_mono (Kd.R_step (Kd.R_bound h) (fun k hk hlt => ?_)) (fun _ _ => trivial)
  obtain ⟨_, _, _, q, hq, cs, hc⟩ := hk
  have hq' := kE_typed hq
  subst hq'
  exact hg.block k hlt (fun e => by
    obtain ⟨c2, e2⟩ := hr k e.symm
    rw [hc] at e2; injection e2 with e2; injection e2 with _ e3; exact absurd e3 (by decide))
theorem ShOk.grown {W W1 : World} {x : Sh} {L : List En} {row : Option Nat} (h : ShOk W x L) (hg : W.grownBy W1 row) (hr : ∀ k, row = some k → ∃ cs, W.heap[k]? = some (.cells cs 48 (0, 0))) : ShOk W1 x L := by
  obtain ⟨Ak, nk, ck, R, h1, h2, h3, h4⟩ := h
  refine ⟨Ak, nk, ck, R, (hg.block _ (blk_lt h1) (fun e => ?_)).trans h1, row_grown h2 hg hr, row_grown h3 hg hr, h4⟩
  obtain ⟨cs, hc⟩ := hr x.g e.symm
  rw [h1] at hc; injection hc with hc; injection hc with _ e3; exact absurd e3 (by decide)
theorem shown_typed {W : World} {b : Nat} {ok : Nat → Prop} {v : Value} {xs : List Sh} (h : kSh.R 48 W b ok v xs) : ∀ k, v.ownBlock = some k → ∃ cs, W.heap[k]? = some (.cells cs 48 (0, 0)) := fun k hk => by
  obtain ⟨inner, ho⟩ := Kd.R_own h
  exact own_typed ho k hk
/-- Seek's answer, one form. -/
theorem seek_post {w w' : World} {es : List En} {q : Option Nat} {e : Ending} (h : SeekPost w es q e w') : e = .returned (.tuple #[.agg #[.string (seekO es q).1, .int .u64 (seekO es q).2.1, .bool (seekO es q).2.2.1, .string (seekO es q).2.2.2.1], .bool (seekO es q).2.2.2.2]) ∧ Below w.heap.size w w' := by
  cases q with
  | none => exact ⟨h.1, h.2⟩
  | some a => exact ⟨h.1.2, h.2⟩
end Go.Proofs.YtaonjmkfbfhanaaDoor.Tn
namespace Go.Proofs.YtaonjmkfbfhanaaDoor
namespace Opn
open Go.ChangeShapes Go.WideShapes Go.ChangeAt Go.RowKit Go.Deep
open YtaonjmkfbfhanaaDoorW.PrintWords
set_option linter.unusedVariables false
section
variable {H : Type} {enc : TypeId × Value → H} {W : World}
def wtR (l : List Int) : Nat := (l.map fun _ => 1).sum + 1
def wtRs (g : List (List Int)) : Nat := (g.map wtR).sum + 1
theorem opens_bytes : Opens enc Tryd.prog W 22 (Kd.slice 5 (Kd.int .u8)) (fun l => l.length * Tryd.prog.bytesOf 5 ≤ 140737488351232 ∧ ∀ x ∈ l, (Lit.int .u8 x).wf = true) wtR := opens_slice Tryd.underlying22 (by kernel_rfl) (opens_int Tryd.underlying5)
theorem opens_chunks : Opens enc Tryd.prog W 33 (Kd.slice 22 (Kd.slice 5 (Kd.int .u8))) (fun g => g.length * Tryd.prog.bytesOf 22 ≤ 140737488351232 ∧ ∀ l ∈ g, l.length * Tryd.prog.bytesOf 5 ≤ 140737488351232 ∧ ∀ x ∈ l, (Lit.int .u8 x).wf = true) wtRs := opens_slice Tryd.underlying33 (by kernel_rfl) opens_bytes
theorem bytesU : Tryd.prog.bytesOf 5 = 1 := by kernel_rfl
theorem bytesUs : Tryd.prog.bytesOf 22 = 24 := by kernel_rfl
def GR (g : List (List Int)) : Prop := g.length ≤ 5864062014634 ∧ (∀ l ∈ g, l.length ≤ 140737488351232) ∧ ∀ l ∈ g, ∀ x ∈ l, (Lit.int .u8 x).wf = true
theorem chunks_arg {base : Nat} {held : Bool} {a : Option Addr} {len cap : Nat} {da : DataW H} {ps : List MemPlace} {ts : List TypeId} {ds : List (DataW H)} {j : Nat}
    (hsz : (DataW.weightsEach Tryd.prog ts ds).all (· ≤ reachBytes) = true) (hts : ts[j]? = some 33) (hds : ds[j]? = some da) (h : DataW.Trod enc Tryd.prog W base (fun _ => true) held 33 (.slice a len cap) da ps) :
    ∃ l : List (List Int), len = l.length ∧ (Kd.slice 5 (Kd.int .u8)).C W a l.length l ∧ l.length ≤ cap ∧ GR l ∧ wtRs l ≤ Rows.uptoBulk da := by
  obtain ⟨l, h1, h2, h3, ⟨h4, h5⟩, h6⟩ := slice_arg opens_chunks hsz hts hds h
  rw [bytesUs] at h4
  refine ⟨l, h1, h2, h3, ⟨by omega, fun r hr => ?_, fun r hr => (h5 r hr).2⟩, h6⟩
  have := (h5 r hr).1
  rw [bytesU] at this
  omega
def wtK (l : List ByteArray) : Nat := (l.map fun s => s.size + 1).sum + 1
theorem opens_keys : Opens enc Tryd.prog W 23 (Kd.slice 9 Kd.string) (fun l => l.length * Tryd.prog.bytesOf 9 ≤ 140737488351232 ∧ ∀ x ∈ l, x.size ≤ 140737488351232) wtK := opens_slice Tryd.underlying23 (by kernel_rfl) (opens_str Tryd.underlying9)
theorem bytesS : Tryd.prog.bytesOf 9 = 16 := by kernel_rfl
def GK (l : List ByteArray) : Prop := l.length ≤ 140737488351232 ∧ ∀ x ∈ l, x.size ≤ 140737488351232
theorem keys_arg {base : Nat} {held : Bool} {a : Option Addr} {len cap : Nat} {da : DataW H} {ps : List MemPlace} {ts : List TypeId} {ds : List (DataW H)} {j : Nat}
    (hsz : (DataW.weightsEach Tryd.prog ts ds).all (· ≤ reachBytes) = true) (hts : ts[j]? = some 23) (hds : ds[j]? = some da) (h : DataW.Trod enc Tryd.prog W base (fun _ => true) held 23 (.slice a len cap) da ps) :
    ∃ l : List ByteArray, len = l.length ∧ Kd.string.C W a l.length l ∧ l.length ≤ cap ∧ GK l ∧ wtK l ≤ Rows.uptoBulk da := by
  obtain ⟨l, h1, h2, h3, ⟨h4, h5⟩, h6⟩ := slice_arg opens_keys hsz hts hds h
  rw [bytesS] at h4
  exact ⟨l, h1, h2, h3, ⟨by omega, h5⟩, h6⟩
end
end Opn
end Go.Proofs.YtaonjmkfbfhanaaDoor
namespace Go.Proofs.YtaonjmkfbfhanaaDoor.Tn
open Go.RowKit Go.Proofs.YtaonjmkfbfhanaaDoorW.PrintWords Go.Proofs.YtaonjmkfbfhanaaDoor.Own Go.Proofs.YtaonjmkfbfhanaaDoor.G Go.Proofs.YtaonjmkfbfhanaaDoor.Wk Go.Proofs.YtaonjmkfbfhanaaDoor.QBo Go.Proofs.YtaonjmkfbfhanaaDoor.Bk Go.Proofs.YtaonjmkfbfhanaaDoor.Rf
set_option linter.unusedVariables false
set_option maxHeartbeats 16000000 in
set_option maxRecDepth 100000 in
theorem turns_walk {w : World} {A0 A1 : Option Addr} {n0 c0 n1 c1 : Nat} {G : List (List Int)} {ks : List ByteArray} (hr0 : Rd kCs w A0 n0 c0 G) (hl : G.length ≤ 140737488351232) (hf : ∀ x ∈ G, x.length ≤ 140737488351232) (hb : ∀ x ∈ G, Bytes x) (hr1 : Rd Kd.string w A1 n1 c1 ks) (hk : ∀ s ∈ ks, s.size ≤ 4611686018427387) (hT : GT w) :
    Calls Tryd.prog 5 #[.slice A0 n0 c0, .slice A1 n1 c1] w fun e w' => e = .returned (.bool true) ∧ Below w.heap.size w w' := by
  have hn : G.length = n0 := hr0.1
  have hn1 : ks.length = n1 := hr1.1
  have HR := Aside0.mk hr0
  have HR1 := Aside0.mk hr1
  have HBy := Aside0.mk hb
  have HKs := Aside0.mk hk
  have HF := Aside0.mk hf
  have HT := Aside0.mk hT
  have HRf := Aside0.mk (Below.refl w.heap.size w)
  clear hr0 hr1 hb hk hf hT
  go_enter Tryd.func5, Tryd.ntmps5
  go_wp2_with fail
  refine (screeroom_Many.calls 131072 131072 w w HRf.out rfl).mono ?_
  rintro en W1 ⟨g, rfl, hI1, hB1, -⟩
  have HI1 := Aside0.mk hI1
  have HB1 := Aside0.mk hB1
  clear hI1 hB1
  go_wp2_with fail
  refine (chunks_calls HI1.out HB1.out HR.out hl HF.out).mono ?_
  rintro en W2 ⟨rfl, hI2, hB2, -⟩
  obtain ⟨s, hs⟩ : ∃ s, cntC 131072 G = s := ⟨_, rfl⟩
  rw [hs] at hI2
  have HI2 := Aside0.mk hI2
  have HB2 := Aside0.mk hB2
  have HS := Aside0.mk hs
  clear hI2 hB2 hs
  by_cases c30 : n0 ≤ 30
  rotate_left
  · go_wp2_with fail
    go_ret
    exact ⟨rfl, HB2.out⟩
  by_cases c10 : n1 ≤ 10
  rotate_left
  · go_wp2_with fail
    go_ret
    exact ⟨rfl, HB2.out⟩
  by_cases hs0 : 0 ≤ s
  rotate_left
  · have HOk : Aside0 (screeroom_Count_Ok.f s = some (false, s)) := ⟨by unfold screeroom_Count_Ok.f; rw [decide_eq_false hs0]⟩
    clear hs0
    go_wp2_with fail
    refine (screeroom_Count_Ok.calls g s false s w _ HI2.out HB2.out HOk.out).mono ?_
    rintro en W3 ⟨rfl, -, hB3, -⟩
    have HB3 := Aside0.mk hB3
    clear hB3
    go_wp2_with fail
    go_ret
    exact ⟨rfl, HB3.out⟩
  have HOk : Aside0 (screeroom_Count_Ok.f s = some (true, s)) := ⟨by unfold screeroom_Count_Ok.f; rw [decide_eq_true hs0]⟩
  have HE : Aside0 (∀ x ∈ G, x.length ≤ 131072) := ⟨fun x hx => by
    have z := (cntC_each (l := G) (s := 131072) (by rw [HS.out]; exact hs0)).2 x hx
    omega⟩
  clear hs0
  go_wp2_with fail
  refine (screeroom_Count_Ok.calls g s true s w _ HI2.out HB2.out HOk.out).mono ?_
  rintro en W3 ⟨rfl, -, hB3, -⟩
  have HB3 := Aside0.mk hB3
  clear hB3 HB2 HB1 HI1 HI2 HOk
  go_wp2_with fail
  go_loopw [6, 7] (fun s6 s7 wr => ∃ (i : Nat) (xs : List Sh), s7 = .int .i64 (i : Int) ∧ i ≤ n0 ∧ xs.length ≤ i ∧ Aside0 (kSh.R 48 wr w.heap.size (fun _ => True) s6 xs) ∧ Aside0 (∀ x ∈ xs, ∃ L, ShOk wr x L) ∧ Aside0 (Below w.heap.size w wr)) (fun _ s7 _ => n0 - (intOf s7).toNat)
  case atStart => exact ⟨0, [], rfl, Nat.zero_le _, Nat.zero_le _, ⟨Kd.R_nil _ _ _ _ _⟩, ⟨fun x hx => absurd hx List.not_mem_nil⟩, HB3⟩
  case round =>
    clear HB3
    obtain ⟨i, xs, rfl, hi, hxi, HX, HOk, HB⟩ := hrel
    obtain ⟨Ax, qx, ex⟩ := Kd.R_slice HX.out
    subst ex
    by_cases hlt : i < n0
    · obtain ⟨ad, Ai, ci, ea, hcell, hci, hC⟩ := at_L1 (Kd.C_below HR.out.2.2 HB.out) (i : Int) (by omega) (by omega)
      subst ea
      have hgi : rd_L1 G (i : Int) = G[i]'(by omega) := by simp [rd_L1, List.getD_eq_getElem?_getD, hn, hlt]
      obtain ⟨b, hbe⟩ : ∃ b, rd_L1 G (i : Int) = b := ⟨_, rfl⟩
      have hmem : b ∈ G := by rw [← hbe, hgi]; exact List.getElem_mem _
      rw [hbe, Int.toNat_natCast] at hcell
      rw [hbe] at hci hC
      have hbl := HE.out b hmem
      have HBB := Aside0.mk (HBy.out b hmem)
      have HD : Aside0 (Rd (Kd.int .u8) wr Ai b.length ci b) := ⟨⟨rfl, hci, hC⟩⟩
      clear hgi hbe hmem hC
      have PL : Aside0 ((0 + b.length) * 1 ≤ 140737488355328) := ⟨by omega⟩
      have HRw := Aside0.mk (Below.refl wr.heap.size wr)
      have HCl := Aside0.mk hcell
      go_wp2_with (first
        | ((with_reducible refine gate_dst (N := 42) rfl ?_); go_must (refine Kd.R_lit (Kd.int .u8) wr.heap.size 5 ?hg (N := 42) ?hd (xs := ([] : List Int)) (inner := []) (ok := fun _ => True) (okp := fun _ => True) ?hr ?hp (fun _ hk => hk) trivial HRw.out (Nat.le_refl _) (by simp) ?_); (case hd => rfl); (case hg => rfl); (case hr => first | (go_simp; done) | (go_simp; rfl)); (case hp => exact Reps.none _ _); intro v1 w1 ho hb hg_ hn_; (have HO1 := Aside0.mk ho); (have HBa := Aside0.mk hb); (have hcell1 := (hb.cell (p := ad.add i) (World.block_lt_of_cell? _ _ HCl.out)).trans HCl.out); clear ho hb hg_ hn_ hcell)
        | ((with_reducible refine gate_builtin (b := .append) (xs := #[.tmp 42, .tmp 46]) rfl ?_); at_builtin; go_must (refine Kd.R_append_rows (Kd.int .u8) (w0 := wr) wr.heap.size rfl (.tmp 42) (.tmp 46) 22 5 (.int .u8 0) 1 rfl Tryd.underlying22 infoU rfl (by decide) (by omega) v1 ([] : List Int) b _ _ _ (fun _ => True) (fun _ => False) rfl rfl ?aO ?aR (fun _ _ h => h) (fun _ h => h.elim) (fun _ _ => trivial) HBa.out HBa.out.size ?aL ?_); (case aR => exact Kd.C_below HD.out.2.2 HBa.out); (case aO => exact HO1.out); (case aL => exact PL.out); intro v2 w2 ho hb hg_ hn_; (obtain ⟨A5, q5, e5⟩ := Kd.R_slice ho); subst e5; (have HO2 := Aside0.mk ho); (have HB2 := Aside0.mk hb); (have hcell2 := (hb.cell (p := ad.add i) (World.block_lt_of_cell? _ _ HCl.out)).trans HCl.out); clear ho hb hg_ hn_ hcell1))
      rw [List.nil_append] at HO2
      have HD2 : Aside0 (Rd (Kd.int .u8) w2 A5 b.length q5 b) := ⟨Rd.of_own HO2.out⟩
      have HBw2 := Aside0.mk (below_step HB.out HB2.out)
      have HDa := Aside0.mk (HD.out.step HB2.out)
      obtain ⟨r, hr⟩ : ∃ r, openB b = r := ⟨_, rfl⟩
      have HOp := Aside0.mk (open_calls HDa.out HBB.out (by omega) (HT.out.below HBw2.out))
      rw [hr] at HOp
      have HQ := Aside0.mk hr
      clear hr HCl
      cases r with
      | none =>
        go_wp2_with fail
        refine HOp.out.mono ?_
        rintro en W4 ⟨he, hb4⟩
        have he' : en = .returned (.tuple #[.pointer none, .int .i64 91]) := he
        subst he'
        have HB4 := Aside0.mk (below_step HB2.out hb4)
        have HD4 := Aside0.mk (HD2.out.step hb4)
        have hcell4 := (hb4.cell (p := ad.add i) (World.block_lt_of_cell? _ _ hcell2)).trans hcell2
        have HC4 := Aside0.mk hcell4
        clear hb4 he hcell2 hcell4
        go_wp2_with fail
        have HOr := Aside0.mk (refOpen_calls HD4.out HBB.out (by omega))
        rw [HQ.out] at HOr
        refine HOr.out.mono ?_
        rintro en W5 ⟨⟨v5, rfl⟩, hb5⟩
        have HB5 := Aside0.mk (below_step HB4.out hb5)
        have HD5 := Aside0.mk (HD4.out.step hb5)
        have hcell5 := (hb5.cell (p := ad.add i) (World.block_lt_of_cell? _ _ HC4.out)).trans HC4.out
        have HDi := Aside0.mk (HD.out.step HB5.out)
        clear hb5
        go_wp2_with fail
        refine (same_calls HDi.out HD5.out (by omega)).mono ?_
        rintro en W6 ⟨he6, hb6⟩
        rw [decide_eq_true rfl] at he6
        subst he6
        have HB6 := Aside0.mk (below_step HB5.out hb6)
        clear hb6 hcell5
        go_wp2_with fail
        refine (num_calls 91 W6).mono ?_
        rintro en WZ ⟨rfl, rfl⟩
        go_wp2_with fail
        refine (num_calls 91 _).mono ?_
        rintro en WZ2 ⟨rfl, rfl⟩
        go_wp2_with fail
        go_roundw
        case rel => exact ⟨i + 1, xs, by go_num, by omega, by omega, ⟨Kd.R_below HX.out HB6.out⟩, ⟨fun x hx => by obtain ⟨L, hL⟩ := HOk.out x hx; exact ⟨L, hL.below HB6.out⟩⟩, ⟨below_step HB.out HB6.out⟩⟩
        case measure => simp [intOf]; omega
      | some LR =>
        obtain ⟨L, R⟩ := LR
        obtain ⟨hLn, hLe⟩ := readB_all HBB.out (open_read HQ.out)
        obtain ⟨hR1, hRL, m, hm, hmb⟩ := open_form HQ.out
        have HTk : Aside0 (Taken L) := ⟨⟨adds_any L (m := newM (R : Int)) (m' := newM 1) rfl rfl hm, hLe⟩⟩
        clear hLe hm hmb
        go_wp2_with fail
        refine HOp.out.mono ?_
        rintro en W4 ⟨⟨gk, rfl, hK⟩, hb4⟩
        have HB4 := Aside0.mk (below_step HB2.out hb4)
        have HD4 := Aside0.mk (HD2.out.step hb4)
        have hcell4 := (hb4.cell (p := ad.add i) (World.block_lt_of_cell? _ _ hcell2)).trans hcell2
        have HC4 := Aside0.mk hcell4
        have HK := Aside0.mk hK
        clear hb4 hcell2 hcell4 hK
        go_wp2_with fail
        have HOr := Aside0.mk (refOpen_calls HD4.out HBB.out (by omega))
        rw [HQ.out] at HOr
        refine HOr.out.mono ?_
        rintro en W5 ⟨⟨v5, rfl, hr5⟩, hb5⟩
        obtain ⟨A7, q7, e7⟩ := Kd.R_slice hr5
        subst e7
        have HB5 := Aside0.mk (below_step HB4.out hb5)
        have HD5 := Aside0.mk (HD4.out.step hb5)
        have hcell5 := (hb5.cell (p := ad.add i) (World.block_lt_of_cell? _ _ HC4.out)).trans HC4.out
        have HDi := Aside0.mk (HD.out.step HB5.out)
        have HSh : Aside0 (ShOk W5 ⟨gk, A7, L.length, q7⟩ L) := ⟨by
          obtain ⟨Ak, nk, ck, k1, k2, k3⟩ := HK.out.step hb5
          exact ⟨Ak, nk, ck, R, k1, Kd.R_mono (Kd.R_lower k3 (Nat.zero_le _)) (fun _ _ => trivial), Kd.R_lower hr5 (Nat.zero_le _), hR1, by omega, by omega, HTk.out⟩⟩
        clear hb5 hr5
        go_wp2_with fail
        refine (same_calls HDi.out HD5.out (by omega)).mono ?_
        rintro en W6 ⟨he6, hb6⟩
        rw [decide_eq_true rfl] at he6
        subst he6
        have HB6 := Aside0.mk (below_step HB5.out hb6)
        have HSh6 := Aside0.mk (HSh.out.below hb6)
        clear hb6 hcell5
        go_wp2_with fail
        refine (num_calls 0 W6).mono ?_
        rintro en WZ ⟨rfl, rfl⟩
        have HX6 := Aside0.mk (Kd.R_below HX.out HB6.out)
        have HBw6 := Aside0.mk (below_step HB.out HB6.out)
        have PX : Aside0 ((xs.length + 1) * 32 ≤ 140737488355328) := ⟨by omega⟩
        go_wp2_with ((with_reducible refine gate_builtin (b := .append) (xs := #[.tmp 91, .tmp 95]) rfl ?_); at_builtin; go_must (refine Kd.R_append kSh (w0 := w) w.heap.size rfl (.tmp 91) (.tmp 95) 38 48 (.agg #[.pointer none, .slice none 0 0]) 32 rfl Tryd.underlying38 infoSh rfl (by decide) (by omega) _ xs (⟨gk, A7, L.length, q7⟩ : Sh) (shC ⟨gk, A7, L.length, q7⟩) (fun _ => True) (fun _ => False) rfl rfl rfl (fun _ hk => hk.elim) (fun _ _ => trivial) HX6.out HBw6.out HBw6.out.size PX.out ?_); intro v7 W7 ho hb hg hat; (have HX7 := Aside0.mk ho); (have HB7 := Aside0.mk hb); (have HG7 : Aside0 (∀ x ∈ xs ++ [(⟨gk, A7, L.length, q7⟩ : Sh)], ∃ L, ShOk W7 x L) := ⟨fun x hx => by
          have ht := shown_typed HX6.out
          rcases List.mem_append.1 hx with hx | hx
          · obtain ⟨L2, hL2⟩ := HOk.out x hx
            exact ⟨L2, (hL2.below HB6.out).grown hg ht⟩
          · rw [List.mem_singleton.1 hx]
            exact ⟨L, HSh6.out.grown hg ht⟩⟩); clear ho hb hg hat)
        go_roundw
        case rel => exact ⟨i + 1, xs ++ [⟨gk, A7, L.length, q7⟩], by go_num, by omega, by rw [List.length_append, List.length_singleton]; omega, HX7, HG7, HB7⟩
        case measure => simp [intOf]; omega
    · have hxl : xs.length ≤ 30 := by omega
      clear hxi
      obtain ⟨wo, rfl⟩ : ∃ wo, wo = wr := ⟨_, rfl⟩
      have HTr := Aside0.mk (HT.out.below HB.out)
      go_wp2_with fail
      go_loopw [13] (fun s13 wq => ∃ z : Int, s13 = .int .i64 z ∧ -1 ≤ z ∧ z < (xs.length : Int) ∧ Aside0 (Below wo.heap.size wo wq)) (fun s13 _ => (intOf s13 + 1).toNat)
      case atStart => exact ⟨(xs.length : Int) - 1, by first | rfl | go_num, by omega, by omega, ⟨by first | exact Below.refl _ _ | (repeat (first | exact Below.refl _ _ | apply pw_below_drewN))⟩⟩
      case round =>
        obtain ⟨wq, rfl⟩ : ∃ wq, wq = wr := ⟨_, rfl⟩
        obtain ⟨z, rfl, hz1, hz2, HBq⟩ := hrel
        by_cases hz : z < 0
        · have hg : decide (0 ≤ z) = false := decide_eq_false (by omega)
          go_wp2_with fail
          go_ret
          exact ⟨rfl, below_step HB.out HBq.out⟩
        · obtain ⟨m, rfl⟩ := Int.eq_ofNat_of_zero_le (show 0 ≤ z by omega)
          have hm : m < xs.length := by omega
          obtain ⟨ad, ea, x0, x1⟩ := at_Sh (Kd.C_below (Kd.R_reads' HX.out).2.2 HBq.out) m hm
          subst ea
          obtain ⟨x, hxe⟩ : ∃ x, xs[m]'hm = x := ⟨_, rfl⟩
          have hmem : x ∈ xs := by rw [← hxe]; exact List.getElem_mem _
          rw [hxe] at x0 x1
          obtain ⟨L, hL⟩ := HOk.out x hmem
          have HL := Aside0.mk (hL.below HBq.out)
          obtain ⟨Ak, nk, ck, R, k1, k2, k3, hR1, hR2, hLn, hTk⟩ := HL.out
          obtain ⟨j1, j2, j3⟩ := Kd.R_reads' k2
          obtain ⟨j4, j5, j6⟩ := Kd.R_reads' k3
          have HX0 := Aside0.mk x0
          have HX1 := Aside0.mk x1
          have HSS : Aside0 (∀ W' : World, Below wq.heap.size wq W' → W'.cell? (ad.add (m * 2)) = some (.pointer (some ⟨x.g, 0, none⟩)) ∧ W'.cell? ⟨(ad.add (m * 2)).block, (ad.add (m * 2)).off + 1, none⟩ = some (.slice x.A x.n x.c)) := ⟨fun W' hW => ⟨(hW.cell (p := ad.add (m * 2)) (World.block_lt_of_cell? _ _ HX0.out)).trans HX0.out, (hW.cell (p := ⟨(ad.add (m * 2)).block, (ad.add (m * 2)).off + 1, none⟩) (World.block_lt_of_cell? _ _ HX1.out)).trans HX1.out⟩⟩
          have hkc : wq.cell? ⟨x.g, 0, none⟩ = some (.slice Ak nk ck) := by rw [blk_cell k1]; rfl
          have hkr : wq.cell? ⟨x.g, 1, none⟩ = some (.int .i64 (R : Int)) := by rw [blk_cell k1]; rfl
          have HGv : Aside0 (∀ W' : World, Below wq.heap.size wq W' → Calls Tryd.prog 21 #[.pointer (some ⟨x.g, 0, none⟩), .int .i64 (-1)] W' (GivenPost W' L)) := ⟨fun W' hW => by
            have z := given_calls x.g nk ck Ak L (-1) W' (by omega) (pw_cell_below hW hkc) (by rw [j1]; exact Kd.C_below j3 hW)
            rwa [givenAll] at z⟩
          have HSk : Aside0 (∀ (s : ByteArray) (W' : World), Below wq.heap.size wq W' → Calls Tryd.prog 22 #[.pointer (some ⟨x.g, 0, none⟩), .string s] W' (SeekPost W' L (seekF L R s (L.length + 1) 0))) := ⟨fun s W' hW => seek_calls s hR1 hR2 (by omega) (pw_cell_below hW hkc) (pw_cell_below hW hkr) (by rw [j1]; exact Kd.C_below j3 hW)⟩
          have HRk : Aside0 (∀ (s : ByteArray) (W' : World), s.size ≤ 4611686018427387 → Below wq.heap.size wq W' → Calls Tryd.prog 23 #[.slice x.A x.n x.c, .string s] W' (SeekPost W' L (seekF L R s (L.length + 1) 0))) := ⟨fun s W' hs hW => refSeek_calls R hR1 s ⟨j4.symm, j5, by rw [j4]; exact Kd.C_below j6 hW⟩ (by omega) hTk hs⟩
          have HCx : Aside0 (∀ W' : World, Below wq.heap.size wq W' → Kd.C kE W' x.A x.n L) := ⟨fun W' hW => by rw [j4]; exact Kd.C_below j6 hW⟩
          have hxc : x.n ≤ x.c := j5
          have HLn := Aside0.mk hLn
          clear hxe hmem hL k1 k2 k3 j1 j2 j3 j4 j5 j6 hkc hkr hR1 hR2 hTk x0 x1 hLn hz hz1 hz2 HX0 HX1
          go_upto_region 19 with fail
          go_cut [116] (fun s116 wx => s116 = .bool false ∧ Aside0 (Below wq.heap.size wq wx))
          case first =>
            go_region_held3 (fun W' => W'.cell? (ad.add (m * 2)) = some (.pointer (some ⟨x.g, 0, none⟩)) ∧ W'.cell? ⟨(ad.add (m * 2)).block, (ad.add (m * 2)).off + 1, none⟩ = some (.slice x.A x.n x.c)) (exact HSS.out _ (by repeat (with_reducible first | exact Below.refl _ _ | exact BX3.out | exact BX2.out | apply below_alloc | apply pw_below_drewN | apply below_drew1))) (first
              | (go_at_call 21; go_must (refine (HGv.out _ (by repeat (first | exact Below.refl _ _ | apply pw_below_drewN | apply below_drew1 | apply below_drew))).mono ?_); rintro e W2 ⟨v2, rfl, hr2, hb2⟩; (obtain ⟨A2, q2, e2⟩ := Kd.R_slice hr2); subst e2; (have BX2 := Aside0.mk (below_step (show Below wq.heap.size wq _ from (by repeat (first | exact Below.refl _ _ | apply pw_below_drewN | apply below_drew1 | apply below_drew))) hb2)); (have HR2 := Aside0.mk (Kd.R_reads' hr2)); clear hr2 hb2)
              | (go_at_call 20; go_must (refine (sameEntries_calls (l := L) (Kd.C_below HR2.out.2.2 (by repeat (first | exact Below.refl _ _ | apply pw_below_drewN | apply below_drew1 | apply below_drew))) HR2.out.2.1 (HCx.out _ (by repeat (first | exact BX2.out | apply pw_below_drewN | apply below_drew1 | apply below_drew))) hxc (by have := HLn.out; omega)).mono ?_); rintro e W3 ⟨rfl, hb3⟩; (have BX3 := Aside0.mk (below_step (show Below wq.heap.size wq _ from (by repeat (first | exact BX2.out | apply pw_below_drewN | apply below_drew1 | apply below_drew))) hb3)); clear hb3))
            all_goals (try (go_wp2_with fail))
            all_goals (go_meet; case rel => exact ⟨rfl, ⟨by repeat (first | exact BX3.out | apply pw_below_drewN | apply below_drew1 | apply below_drew)⟩⟩)
          case rest =>
            obtain ⟨rfl, HBc⟩ := hcut
            go_wp2_with fail
            go_loopw [14] (fun s14 wq2 => ∃ q : Nat, s14 = .int .i64 (q : Int) ∧ q ≤ n1 ∧ Aside0 (Below wq.heap.size wq wq2)) (fun s14 _ => n1 - (intOf s14).toNat)
            case atStart => exact ⟨0, rfl, Nat.zero_le _, ⟨by repeat (first | exact HBc.out | apply pw_below_drewN | apply below_drew1)⟩⟩
            case round =>
              obtain ⟨wp, rfl⟩ : ∃ wp, wp = wr := ⟨_, rfl⟩
              obtain ⟨q, rfl, hq, HBp⟩ := hrel
              by_cases hqlt : q < n1
              · obtain ⟨ad2, ea2, hkey⟩ := Kd.at_string (Kd.C_below HR1.out.2.2 (below_step HB.out (below_step HBq.out HBp.out))) (q : Int) (by omega) (by omega)
                obtain ⟨key, hkk⟩ : ∃ key, rdOf ByteArray.empty ks (q : Int) = key := ⟨_, rfl⟩
                have hks : key.size ≤ 4611686018427387 := by
                  rw [← hkk]
                  simp only [rdOf, Int.toNat_natCast, List.getD_eq_getElem?_getD]
                  rw [List.getElem?_eq_getElem (by omega)]
                  exact HKs.out _ (List.getElem_mem _)
                rw [hkk, Int.toNat_natCast] at hkey
                subst ea2
                have HKy := Aside0.mk hkey
                obtain ⟨⟨z0, z1, z2, z3, z4⟩, hzz⟩ : ∃ z, seekO L (seekF L R key (L.length + 1) 0) = z := ⟨_, rfl⟩
                have HS1 : Aside0 (∀ W' : World, Below wp.heap.size wp W' → Calls Tryd.prog 22 #[.pointer (some ⟨x.g, 0, none⟩), .string key] W' (fun e w' => e = .returned (.tuple #[.agg #[.string z0, .int .u64 z1, .bool z2, .string z3], .bool z4]) ∧ Below W'.heap.size W' w')) := ⟨fun W' hW => (HSk.out key W' (below_step HBp.out hW)).mono fun e w' h => by
                  have z := seek_post h
                  rw [hzz] at z
                  exact z⟩
                have HS2 : Aside0 (∀ W' : World, Below wp.heap.size wp W' → Calls Tryd.prog 23 #[.slice x.A x.n x.c, .string key] W' (fun e w' => e = .returned (.tuple #[.agg #[.string z0, .int .u64 z1, .bool z2, .string z3], .bool z4]) ∧ Below W'.heap.size W' w')) := ⟨fun W' hW => (HRk.out key W' hks (below_step HBp.out hW)).mono fun e w' h => by
                  have z := seek_post h
                  rw [hzz] at z
                  exact z⟩
                have HS3 : Aside0 (∀ W' : World, Below wp.heap.size wp W' → W'.cell? (ad.add (m * 2)) = some (.pointer (some ⟨x.g, 0, none⟩)) ∧ W'.cell? ⟨(ad.add (m * 2)).block, (ad.add (m * 2)).off + 1, none⟩ = some (.slice x.A x.n x.c) ∧ W'.cell? (ad2.add q) = some (.string key)) := ⟨fun W' hW => ⟨(HSS.out W' (below_step HBp.out hW)).1, (HSS.out W' (below_step HBp.out hW)).2, (hW.cell (p := ad2.add q) (World.block_lt_of_cell? _ _ HKy.out)).trans HKy.out⟩⟩
                clear hkey hkk hks hzz
                go_upto_region 24 with fail
                go_cut [15, 16] (fun s_ t_ wx => ∃ h : Nat, s_ = .pointer (some ⟨h, 0, none⟩) ∧ t_ = .bool z4 ∧ Aside0 (wx.heap[h]? = some (.cells #[.string z0, .int .u64 z1, .bool z2, .string z3] 30 (0, 0))) ∧ Aside0 (Below wp.heap.size wp wx))
                case first =>
                  go_region_held3 (fun W' => W'.cell? (ad.add (m * 2)) = some (.pointer (some ⟨x.g, 0, none⟩)) ∧ W'.cell? ⟨(ad.add (m * 2)).block, (ad.add (m * 2)).off + 1, none⟩ = some (.slice x.A x.n x.c) ∧ W'.cell? (ad2.add q) = some (.string key)) (exact HS3.out _ (by repeat (with_reducible first | exact Below.refl _ _ | exact BX2.out | apply below_alloc | apply pw_below_drewN | apply below_drew1 | refine below_at ?_ (Nat.le_refl _) _ _))) ((go_at_call 22; go_must (refine (HS1.out _ (by repeat (first | exact Below.refl _ _ | apply below_alloc | apply pw_below_drewN | apply below_drew1 | apply below_drew))).mono ?_); rintro e W2 ⟨rfl, hb2⟩; (have BX2 := Aside0.mk (below_step (show Below wp.heap.size wp _ from (by repeat (first | exact Below.refl _ _ | apply below_alloc | apply pw_below_drewN | apply below_drew1 | apply below_drew))) hb2)); (try ((have HA2 := Aside0.mk (show W2.heap[wp.heap.size]? = some (.cells #[.string (⟨#[]⟩ : ByteArray), .int .u64 0, .bool false, .string (⟨#[]⟩ : ByteArray)] 30 (0, 0)) from (hb2.block _ (by simp)).trans (by first | exact heap_alloc_new (wp.drewN _) _ | exact heap_alloc_new wp.drew _ | exact heap_alloc_new wp _))); (have hf0 := blk_frozen HA2.out 0); (have hy0 : W2.cell? ⟨wp.heap.size, 0, none⟩ = some (.string (⟨#[]⟩ : ByteArray)) := (blk_cell HA2.out 0).trans rfl); (have hf1 := blk_frozen HA2.out 1); (have hy1 : W2.cell? ⟨wp.heap.size, 1, none⟩ = some (.int .u64 0) := (blk_cell HA2.out 1).trans rfl); (have hf2 := blk_frozen HA2.out 2); (have hy2 : W2.cell? ⟨wp.heap.size, 2, none⟩ = some (.bool false) := (blk_cell HA2.out 2).trans rfl); (have hf3 := blk_frozen HA2.out 3); (have hy3 : W2.cell? ⟨wp.heap.size, 3, none⟩ = some (.string (⟨#[]⟩ : ByteArray)) := (blk_cell HA2.out 3).trans rfl))); clear hb2))
                  all_goals (try (go_wp2_with fail))
                  all_goals (go_meet; case rel => exact ⟨_, rfl, rfl, ⟨by first | exact heap_alloc_new W2 _ | exact heap_alloc_new (W2.drewN _) _ | exact heap_alloc_new W2.drew _ | (refine blk_put (cs := #[.string z0, .int .u64 z1, .bool z2, .string (⟨#[]⟩ : ByteArray)]) ?_ 3 _ rfl; refine blk_put (cs := #[.string z0, .int .u64 z1, .bool false, .string (⟨#[]⟩ : ByteArray)]) ?_ 2 _ rfl; refine blk_put (cs := #[.string z0, .int .u64 0, .bool false, .string (⟨#[]⟩ : ByteArray)]) ?_ 1 _ rfl; refine blk_put (cs := #[.string (⟨#[]⟩ : ByteArray), .int .u64 0, .bool false, .string (⟨#[]⟩ : ByteArray)]) ?_ 0 _ rfl; exact HA2.out)⟩, ⟨by repeat (first | exact BX2.out | apply pw_below_drewN | apply below_alloc | apply below_drew1 | apply below_drew | refine below_at ?_ (Nat.le_refl _) _ _)⟩⟩)
                case rest =>
                  obtain ⟨h1, rfl, rfl, HH1, HBc1⟩ := hcut
                  obtain ⟨wc1, rfl⟩ : ∃ wc1, wc1 = wc := ⟨_, rfl⟩
                  have HS4 : Aside0 (∀ W' : World, Below wc1.heap.size wc1 W' → W'.cell? (ad.add (m * 2)) = some (.pointer (some ⟨x.g, 0, none⟩)) ∧ W'.cell? ⟨(ad.add (m * 2)).block, (ad.add (m * 2)).off + 1, none⟩ = some (.slice x.A x.n x.c) ∧ W'.cell? (ad2.add q) = some (.string key)) := ⟨fun W' hW => HS3.out W' (below_step HBc1.out hW)⟩
                  have HS2' : Aside0 (∀ W' : World, Below wc1.heap.size wc1 W' → Calls Tryd.prog 23 #[.slice x.A x.n x.c, .string key] W' (fun e w' => e = .returned (.tuple #[.agg #[.string z0, .int .u64 z1, .bool z2, .string z3], .bool z4]) ∧ Below W'.heap.size W' w')) := ⟨fun W' hW => HS2.out W' (below_step HBc1.out hW)⟩
                  clear HS3 HS2 HS1
                  go_upto_region 25 with fail
                  go_cut [17, 18] (fun s_ t_ wx => ∃ h : Nat, s_ = .pointer (some ⟨h, 0, none⟩) ∧ t_ = .bool z4 ∧ Aside0 (wx.heap[h]? = some (.cells #[.string z0, .int .u64 z1, .bool z2, .string z3] 30 (0, 0))) ∧ Aside0 (Below wc1.heap.size wc1 wx))
                  case first =>
                    go_region_held3 (fun W' => W'.cell? (ad.add (m * 2)) = some (.pointer (some ⟨x.g, 0, none⟩)) ∧ W'.cell? ⟨(ad.add (m * 2)).block, (ad.add (m * 2)).off + 1, none⟩ = some (.slice x.A x.n x.c) ∧ W'.cell? (ad2.add q) = some (.string key)) (exact HS4.out _ (by repeat (with_reducible first | exact Below.refl _ _ | exact BY2.out | apply below_alloc | apply pw_below_drewN | apply below_drew1 | refine below_at ?_ (Nat.le_refl _) _ _))) ((go_at_call 23; go_must (refine (HS2'.out _ (by repeat (first | exact Below.refl _ _ | apply below_alloc | apply pw_below_drewN | apply below_drew1 | apply below_drew))).mono ?_); rintro e V2 ⟨rfl, hb2⟩; (have BY2 := Aside0.mk (below_step (show Below wc1.heap.size wc1 _ from (by repeat (first | exact Below.refl _ _ | apply below_alloc | apply pw_below_drewN | apply below_drew1 | apply below_drew))) hb2)); (try ((have HC2 := Aside0.mk (show V2.heap[wc1.heap.size]? = some (.cells #[.string (⟨#[]⟩ : ByteArray), .int .u64 0, .bool false, .string (⟨#[]⟩ : ByteArray)] 30 (0, 0)) from (hb2.block _ (by simp)).trans (by first | exact heap_alloc_new (wc1.drewN _) _ | exact heap_alloc_new wc1.drew _ | exact heap_alloc_new wc1 _))); (have gf0 := blk_frozen HC2.out 0); (have gy0 : V2.cell? ⟨wc1.heap.size, 0, none⟩ = some (.string (⟨#[]⟩ : ByteArray)) := (blk_cell HC2.out 0).trans rfl); (have gf1 := blk_frozen HC2.out 1); (have gy1 : V2.cell? ⟨wc1.heap.size, 1, none⟩ = some (.int .u64 0) := (blk_cell HC2.out 1).trans rfl); (have gf2 := blk_frozen HC2.out 2); (have gy2 : V2.cell? ⟨wc1.heap.size, 2, none⟩ = some (.bool false) := (blk_cell HC2.out 2).trans rfl); (have gf3 := blk_frozen HC2.out 3); (have gy3 : V2.cell? ⟨wc1.heap.size, 3, none⟩ = some (.string (⟨#[]⟩ : ByteArray)) := (blk_cell HC2.out 3).trans rfl))); clear hb2))
                    all_goals (try (go_wp2_with fail))
                    all_goals (go_meet; case rel => exact ⟨_, rfl, rfl, ⟨by first | exact heap_alloc_new V2 _ | exact heap_alloc_new (V2.drewN _) _ | exact heap_alloc_new V2.drew _ | (refine blk_put (cs := #[.string z0, .int .u64 z1, .bool z2, .string (⟨#[]⟩ : ByteArray)]) ?_ 3 _ rfl; refine blk_put (cs := #[.string z0, .int .u64 z1, .bool false, .string (⟨#[]⟩ : ByteArray)]) ?_ 2 _ rfl; refine blk_put (cs := #[.string z0, .int .u64 0, .bool false, .string (⟨#[]⟩ : ByteArray)]) ?_ 1 _ rfl; refine blk_put (cs := #[.string (⟨#[]⟩ : ByteArray), .int .u64 0, .bool false, .string (⟨#[]⟩ : ByteArray)]) ?_ 0 _ rfl; exact HC2.out)⟩, ⟨by repeat (first | exact BY2.out | apply pw_below_drewN | apply below_alloc | apply below_drew1 | apply below_drew | refine below_at ?_ (Nat.le_refl _) _ _)⟩⟩)
                  case rest =>
                    obtain ⟨h2, rfl, rfl, HH2, HBc2⟩ := hcut
                    have HH1' := Aside0.mk ((HBc2.out.block _ (blk_lt HH1.out)).trans HH1.out)
                    have p0 : wc.cell? ⟨h1, 0, none⟩ = some (.string z0) := by rw [blk_cell HH1'.out]; rfl
                    have p1 : wc.cell? ⟨h1, 1, none⟩ = some (.int .u64 z1) := by rw [blk_cell HH1'.out]; rfl
                    have p2 : wc.cell? ⟨h1, 2, none⟩ = some (.bool z2) := by rw [blk_cell HH1'.out]; rfl
                    have p3 : wc.cell? ⟨h1, 3, none⟩ = some (.string z3) := by rw [blk_cell HH1'.out]; rfl
                    have q0 : wc.cell? ⟨h2, 0, none⟩ = some (.string z0) := by rw [blk_cell HH2.out]; rfl
                    have q1 : wc.cell? ⟨h2, 1, none⟩ = some (.int .u64 z1) := by rw [blk_cell HH2.out]; rfl
                    have q2 : wc.cell? ⟨h2, 2, none⟩ = some (.bool z2) := by rw [blk_cell HH2.out]; rfl
                    have q3 : wc.cell? ⟨h2, 3, none⟩ = some (.string z3) := by rw [blk_cell HH2.out]; rfl
                    go_wp2_with fail
                    go_roundw
                    case rel => exact ⟨q + 1, by go_num, by omega, ⟨below_step HBp.out (below_step HBc1.out HBc2.out)⟩⟩
                    case measure => simp [intOf]; omega
              · go_wp2_with fail
                go_roundw
                case rel => exact ⟨(m : Int) - 1, by first | rfl | go_num, by omega, by omega, ⟨by first | exact below_step HBq.out HBp.out | (repeat (first | exact below_step HBq.out HBp.out | apply pw_below_drewN))⟩⟩
                case measure => simp [intOf]
end Go.Proofs.YtaonjmkfbfhanaaDoor.Tn
namespace Go.Proofs.YtaonjmkfbfhanaaDoor.BlockTurns
open Go.RowKit Go.Proofs.YtaonjmkfbfhanaaDoorW.PrintWords Go.Proofs.YtaonjmkfbfhanaaDoor.Own Go.Proofs.YtaonjmkfbfhanaaDoor.Wk Go.Proofs.YtaonjmkfbfhanaaDoor.QBo
set_option linter.unusedVariables false
theorem walk (A0 : Option Addr) (c0 : Nat) (l0 : List (List Int)) {w' : World} (hr0 : (Kd.slice 5 (Kd.int .u8)).C w' A0 l0.length l0) (hc0 : l0.length ≤ c0) (hg0 : Opn.GR l0) (A1 : Option Addr) (c1 : Nat) (l1 : List ByteArray) (hr1 : Kd.string.C w' A1 l1.length l1) (hc1 : l1.length ≤ c1) (hg1 : Opn.GK l1) (w : World) (hT : GT w) (e : w' = w := by rfl) :
    Calls Tryd.prog 5 #[.slice A0 l0.length c0, .slice A1 l1.length c1] w fun e w' => e = .returned (.bool true) ∧ Below w.heap.size w w' := by
  subst e
  have h0 := hg0.1
  exact Tn.turns_walk ⟨rfl, hc0, hr0⟩ (by omega) hg0.2.1 (fun x hx => bytes_wf (hg0.2.2 x hx)) ⟨rfl, hc1, hr1⟩ (fun s hs => by have := hg1.2 s hs; omega) hT
end Go.Proofs.YtaonjmkfbfhanaaDoor.BlockTurns
namespace Go.Proofs.YtaonjmkfbfhanaaDoor.blockTurns
open Go.ChangeShapes Go.WideShapes Go.ChangeAt Go.RowKit
open Go.ChangeMaps (open_string shut_string)
set_option linter.unusedVariables false
theorem own : ownKnob Tryd.prog.godebug = none := by kernel_rfl
theorem laidOut : laidOutB Tryd.prog = true := by kernel_rfl
def IsRow (k : IntKind) (w : World) (a : Option Addr) (len cap : Nat) (zs : List Int) : Prop :=
  (a = none ∧ len = 0 ∧ cap = 0 ∧ zs = []) ∨
  ∃ x, a = some x ∧ len ≤ cap ∧ cap ≤ maxLen ∧ zs.length = cap ∧ (∀ i, i < zs.length → w.cell? (x.add i) = some (.int k (zs.getD i 0))) ∧ ∀ n ∈ zs, (Lit.int k n).wf = true
theorem gTab : Tryd.prog.globalNamed "scree/codec.nibbles" = some 0 := by kernel_rfl
theorem gTabType : (Tryd.prog.globals[0]?).map (·.type) = some 161 := by kernel_rfl
theorem cellsA : Tryd.prog.cellsOf 161 = 16 := by kernel_rfl
theorem cellsE : Tryd.prog.cellsOf 59 = 1 := by kernel_rfl
theorem table {W : World} (h : laidMetH Tryd.prog Rows.blockTurnsRow.laid W) : Lib.TabIs Tryd.prog W "scree/codec.nibbles" .u32 Own.nibs :=
  Lib.tabIs_of_head (rest := []) gTab gTabType Tryd.underlying161 Tryd.underlying59 cellsE cellsA h
theorem gt {W : World} (h : laidMetH Tryd.prog Rows.blockTurnsRow.laid W) : Own.GT W := fun i hi => by
  have hl : i < Own.nibs.length := by simpa [Own.nibs] using hi
  have := (table h).cell gTab i hl
  simpa [List.getD_eq_getElem?_getD, hl] using this
set_option maxRecDepth 100000 in
theorem contract (H : Type) (enc : TypeId × Value → H) (W : World) (base : Nat) (args : Array Value) (ds gs : List (DataW H)) (before : List MemPlace)
    (hval : ∀ (j : Nat) t v, Tryd.f5.params[j]? = some t → args[j]? = some v → Value.okWide Tryd.prog W .any base t v)
    (hW : DataW.Whole enc Tryd.prog Tryd.f5.params.toList Rows.blockTurnsSpec.vars false W args.toList ds gs before)
    (hsz0 : (DataW.weightsEach Tryd.prog (Tryd.f5.params.toList ++ Rows.blockTurnsSpec.plain.varTypes Tryd.prog) (ds ++ gs)).all (· ≤ reachBytes) = true) (hL : laidMetH Tryd.prog Rows.blockTurnsRow.laid W) :
    Calls Tryd.prog 5 args W fun e W' => ∃ v, e = .returned v ∧ Rows.blockTurnsSpec.post enc Tryd.prog Tryd.f5 false true false false W args v W' := by
  have hW' := hW
  have hsz := hsz0
  obtain ⟨p, q, hA0, hV, rfl, hfz, hnd⟩ := hW
  have hA : DataW.TrodAll enc Tryd.prog W 0 (fun _ => true) true Tryd.f5.params.toList args.toList ds p := hA0
  rw [Tryd.params5] at hA hval hsz
  obtain ⟨v0, vs0, d0, ds0, p0, q0, hargs, rfl, rfl, h0, r0⟩ := trodAll_cons hA
  obtain ⟨v1, vs1, d1, ds1, p1, q1, rfl, rfl, rfl, h1, r1⟩ := trodAll_cons r0
  obtain ⟨rfl, rfl, rfl⟩ := trodAll_nil r1
  obtain rfl : args = #[v0, v1] := by cases args; simp_all
  obtain ⟨rfl, rfl⟩ := trodVars_none hV
  obtain ⟨a0, len0, cap0, rfl⟩ := okWide_slice Tryd.underlying33 (hval 0 33 v0 rfl rfl)
  have k0 := h0
  have lt0 : ∀ x ∈ p0, x.block < W.heap.size := by obtain ⟨m, hm⟩ := k0; exact DataW.trod_lt m _ _ _ hm
  obtain ⟨l0, el0, hr0, hc0, hg0, dz0⟩ := Opn.chunks_arg (j := 0) hsz rfl rfl h0
  subst el0
  obtain ⟨a1, len1, cap1, rfl⟩ := okWide_slice Tryd.underlying23 (hval 1 23 v1 rfl rfl)
  have k1 := h1
  have lt1 : ∀ x ∈ p1, x.block < W.heap.size := by obtain ⟨m, hm⟩ := k1; exact DataW.trod_lt m _ _ _ hm
  obtain ⟨l1, el1, hr1, hc1, hg1, dz1⟩ := Opn.keys_arg (j := 1) hsz rfl rfl h1
  subst el1
  refine (BlockTurns.walk a0 cap0 l0 hr0 hc0 hg0 a1 cap1 l1 hr1 hc1 hg1 W (gt hL)).mono fun e W' ⟨he, bel⟩ => ?_
  subst he
  exact ⟨_, rfl, _, _, _, [], _, [], hW', trodAll_mk1 (shut_bool Tryd.underlying4 _), (trodAll_cons_mk (Below.trod laidOut (by kernel_rfl) (of_decide_eq_true (by kernel_rfl)) k0 bel lt0) (trodAll_cons_mk (Below.trod laidOut (by kernel_rfl) (of_decide_eq_true (by kernel_rfl)) k1 bel lt1) trodAll_mk0)), rfl, bel.frame _, fun h => by cases h⟩
noncomputable def laidWorld (os : Os) : World :=
  { World.holding Tryd.prog os ⟨#[], #[], []⟩ with heap := (World.holding Tryd.prog os ⟨#[], #[], []⟩).heap.modify 0 fun
      | .cells _ t frozen => .cells #[.int .u32 0, .int .u32 274646895, .int .u32 549293790, .int .u32 820201905, .int .u32 1098587580, .int .u32 1361435347, .int .u32 1640403810, .int .u32 1905808397, .int .u32 2197175160, .int .u32 2460548119, .int .u32 2722870694, .int .u32 2987750089, .int .u32 3280807620, .int .u32 3553878443, .int .u32 3811616794, .int .u32 4084100981] t frozen
      | o => o }
theorem laid_met (os : Os) : laidMet Tryd.prog Rows.blockTurnsRow.laid ((laidWorld os).forCall (fun _ _ => 0) ⟨#[], #[.slice none 0 0, .slice none 0 0], []⟩).memory :=
  laidMet_of_run' 8 (by kernel_rfl) (by kernel_rfl)
theorem reads (os : Os) {H : Type} (enc : TypeId × Value → H) : ∃ places, DataW.whole enc Tryd.prog ((laidWorld os).forCall (fun _ _ => 0) ⟨#[], #[.slice none 0 0, .slice none 0 0], []⟩).memory Tryd.f5.params.toList Rows.blockTurnsSpec.vars false #[.slice none 0 0, .slice none 0 0].toList 8 = some ([.nil, .nil], [], places) :=
  ⟨[], by kernel_rfl⟩
set_option maxRecDepth 100000 in
theorem lifted (os : Os) (started : os.Started) (H : Type) (enc : TypeId × Value → H) (F : Stop.Interp) :
    ReturnsInHanded {} Tryd.checked os 5 .any ((OpenSpec.ofChange Rows.blockTurnsSpec).preRow enc Tryd.prog Tryd.f5 Rows.blockTurnsRow.domain false Rows.blockTurnsRow.laid) (((OpenSpec.ofChange Rows.blockTurnsSpec).at F).post enc Tryd.prog Tryd.f5 false true false false) := by
  obtain ⟨places, hx⟩ := reads os enc
  refine returnsInHanded_of_row (C := Tryd.checked) (s := OpenSpec.ofChange Rows.blockTurnsSpec) own started (by kernel_rfl) Tryd.func5
    (witness_row_at (enc := enc) (C := Tryd.checked) false (laidWorld os) #[.slice none 0 0, .slice none 0 0] rfl (by kernel_rfl) (by kernel_rfl) (by kernel_rfl)
      (OpenSpec.preRow_of_cond 8 hx (by kernel_rfl) (fun k hk => by cases hk) (by kernel_rfl) (laid_met os))) ?_
  intro W base args ds gs before hval hW _ _ hsz hL _ _
  exact contract H enc W base args ds gs before hval hW hsz hL
theorem said : Rows.BlockTurnsSaid :=
  OpenClaim.holds_of_cond 5 Tryd.f5 rfl rfl rfl rfl rfl rfl rfl ⟨rfl, rfl, rfl, rfl, rfl⟩ rfl rfl rfl rfl rfl (by kernel_rfl) Tryd.func5 (by kernel_rfl)
    (of_decide_eq_true (by kernel_rfl)) (by unfold Func.isWrapper; first | (rw [if_pos (by decide +kernel)]; kernel_rfl) | (rw [if_neg (by decide +kernel)]; exact ⟨rfl, rfl⟩))
    (fun os started H enc _ F => by rw [OpenClaim.pre_eq_preRow]; exact lifted os started H enc F)
theorem plain (f : FuncId) (fn : Func) (hf : Tryd.pinned.checked.prog.funcNamed "scree/screelaw9.BlockTurns" = some f) (hfn : Tryd.pinned.checked.prog.funcs[f]? = some fn) :
    false = Tryd.pinned.checked.prog.looks [] ∧ ∀ (j : Nat) t, fn.params[j]? = some t → Tryd.pinned.checked.prog.wantsStandIn t = false := by
  obtain rfl : f = 5 := Option.some.inj ((show Tryd.prog.funcNamed "scree/screelaw9.BlockTurns" = some 5 by kernel_rfl).symm.trans hf) |>.symm
  obtain rfl : fn = Tryd.f5 := (Option.some.inj (Tryd.func5.symm.trans hfn)).symm
  refine ⟨by kernel_rfl, fun j t ht => ?_⟩
  rw [Tryd.params5] at ht
  have hm : t ∈ [33, 23] := by have := Array.mem_of_getElem? ht; simpa using this
  have hall : ([33, 23].all fun u => !Tryd.prog.wantsStandIn u) = true := by kernel_rfl
  exact (show Tryd.prog.wantsStandIn t = false by simpa using List.all_eq_true.1 hall t hm)
theorem proved : Rows.BlockTurnsCardSaid :=
  Claim7.holds_tied_plain_at .later [] _ _ _ _ said (fun _ h => by cases h) (by kernel_rfl) (fun _ h => by cases h) blockTurns_row_tie rfl ⟨rfl, rfl⟩ (by kernel_rfl) rfl plain (by kernel_rfl)
#print axioms proved
end Go.Proofs.YtaonjmkfbfhanaaDoor.blockTurns
