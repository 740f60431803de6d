/- The codec's sum laid behind bytes that are read, and its look at four bytes (this claim's own lemmas). -/
import Derived.Test.YtipefhadafildaaDoorGSum
import Derived.Test.YtipefhadafildaaDoorSpec
import Derived.ArgAppend
import Derived.Deep.RegionWith
import Derived.Outline
namespace Go.Proofs.YtipefhadafildaaDoor.G
open Go.RowKit Go.Proofs.YtipefhadafildaaDoorW.PrintWords Go.Proofs.YtipefhadafildaaDoor.Own
set_option linter.unusedVariables false
theorem infoB : (Tryd.prog.info? 5).map (fun i => (i.zero, i.size, i.bytes)) = some (some (.int .u8 0), 1, 1) := by kernel_rfl
def fourL (x : Int) : List Int := [x % 256, x / 256 % 256, x / 65536 % 256, x / 16777216]
theorem sumF_range {l : List Int} (hl : Bytes l) : U32 (sumF l) := u32_xor_range (by simp [U32]) (sumf_range hl)
theorem cell_enc {w : World} {ad : Addr} {l : List Int} (h : Kd.C (Kd.int .u8) w (some ad) l.length l) (j : Nat) (u : Value) (hu : (encs (Value.int .u8) l)[j]? = some u) : w.cell? (ad.add j) = some u := by
  have hj : j < l.length := by
    have := (List.getElem?_eq_some_iff.1 hu).1
    simpa [encs] using this
  obtain ⟨ad', e, hc⟩ := (Kd.reads_of_C (d := (0 : Int)) h).2.2 (by omega)
  injection e with e
  subst e
  rw [encs_get (d := (0 : Int)) _ _ hj] at hu
  rw [hc j hj]
  exact hu
theorem four_form {w : World} {base : Nat} {v : Value} {x : Int} (h : Kd.R (Kd.int .u8) 5 w base (fun _ => True) v (fourL x)) : ∃ Av nv, v = .slice (some Av) 4 nv ∧ 4 ≤ nv ∧ ∀ j u, (encs (Value.int .u8) (fourL x))[j]? = some u → w.cell? (Av.add j) = some u := by
  obtain ⟨A, c, rfl, h1, h2⟩ := Kd.R_reads h
  obtain ⟨ad, e, _⟩ := (Kd.reads_of_C (d := (0 : Int)) h2).2.2 (by simp [fourL])
  subst e
  exact ⟨ad, c, rfl, h1, fun j u hu => cell_enc h2 j u hu⟩
theorem one_encs (l : List Int) : ∀ u ∈ encs (Value.int .u8) l, u.oneCell' = true := fun u hu => by
  simp only [encs, List.mem_map] at hu
  obtain ⟨q, _, rfl⟩ := hu
  rfl
def Stop (p : Prop) : Prop := p
theorem stop_here {p : Prop} (h : Stop p) : p := h
theorem stop_on {p : Prop} (h : p) : Stop p := h
theorem cell_new (w : World) (l : List Value) (t : Nat) (j : Nat) (u : Value) (hu : l[j]? = some u) : (w.alloc (.cells l.toArray t)).cell? ((⟨w.heap.size, 0, none⟩ : Addr).add j) = some u := by
  rw [add_plain, cell_of_row _ _ j l.toArray t (0, 0) (heap_alloc_new w _)]
  simpa using hu
set_option maxHeartbeats 400000 in
set_option maxRecDepth 100000 in
theorem sum_full (ad : Addr) (l0 : List Int) (w : World) (hr0 : Kd.C (Kd.int .u8) w (some ad) l0.length l0) (hl : Bytes l0) (hlen : l0.length ≤ 140737488351232) (hT : GT w) :
    Calls Tryd.prog 39 #[.slice (some ad) l0.length l0.length] w fun e w' => ∃ v0_ : Value, e = .returned (v0_) ∧ Kd.R (Kd.int .u8) 5 w' w.heap.size (fun _ => True) v0_ (l0 ++ fourL (sumF l0)) ∧ Below w.heap.size w w' := by
  have HR0 := Aside0.mk hr0
  have HT := Aside0.mk hT
  have HL := Aside0.mk hl
  have hx := sumF_range hl
  obtain ⟨x, hxe⟩ : ∃ x, x = sumF l0 := ⟨_, rfl⟩
  rw [← hxe] at hx ⊢
  have HX := Aside0.mk hxe
  have h0 := hx.1
  have h1 := hx.2
  have HB := Aside0.mk (Below.refl w.heap.size w)
  clear hr0 hl hT hxe hx
  obtain ⟨i0, hi0, hz0, hz1, hz2⟩ := info_parts infoB
  have HI := Aside0.mk (And.intro hi0 (And.intro hz0 (And.intro hz1 hz2)))
  clear hi0 hz0 hz1 hz2
  have HF : Aside0 (l0.length < l0.length + 4) := ⟨by omega⟩
  have HM : Aside0 (l0.length + 4 ≤ maxLen) := ⟨by unfold maxLen; omega⟩
  have HN : Aside0 ((l0.length + 4) * 1 ≤ 140737488355328) := ⟨by omega⟩
  have HA : Aside0 (some ad = none → l0.length = 0 ∧ l0.length = 0) := ⟨fun h => by cases h⟩
  have HE : Aside0 ((encs (Value.int .u8) l0).length = l0.length * 1) := ⟨by simp [encs]⟩
  go_enter Tryd.func39, Tryd.ntmps39
  go_wp2_with (first
    | (go_at_call 11; go_must (refine (sum_calls (some ad) l0.length l0 w HR0.out (Nat.le_refl _) HL.out HT.out).mono ?_); rintro e w ⟨rfl, rfl⟩; rw [← HX.out])
    | ((with_reducible refine gate_dst (N := 18) rfl ?_); go_must (refine Kd.R_lit (Kd.int .u8) w.heap.size 5 ?hg (N := 18) ?hd (xs := fourL x) (inner := [.int .u8 (x % 256), .int .u8 (x / 256 % 256), .int .u8 (x / 65536 % 256), .int .u8 (x / 16777216)]) (ok := fun _ => True) (okp := fun _ => True) ?hr ?hp (fun _ hk => hk) trivial HB.out HB.out.size (by simp [fourL]) ?_); (case hd => rfl); (case hg => rfl); (case hr => first | (go_simp; done) | (go_simp; rfl)); (case hp => exact Kd.reps_scalar (enc := Value.int .u8) (fourL x)); intro v1 w1 ho hb hg_ hn_; clear HB; (obtain ⟨Av, nv, e1, hnv, hcv⟩ := four_form ho); subst e1; (have HV := Aside0.mk hcv); (have HB := Aside0.mk hb); clear ho hb hg_ hn_)
    | (at_builtin; refine stop_here ?_))
  refine stop_on ?_
  refine wpList_append_grows w1 rfl (.tmp 6) (.tmp 18) 22 rfl 5 i0 (.int .u8 0) 1 1 Tryd.underlying22 HI.out.1 HI.out.2.1 HI.out.2.2.1 HI.out.2.2.2 rfl (by decide) (some ad) l0.length l0.length (encs (Value.int .u8) l0) rfl HA.out HE.out ?c1 Av 4 nv (encs (Value.int .u8) (fourL x)) rfl rfl HV.out (one_encs _) HF.out HM.out HN.out ?c3
  case c1 =>
    intro b hb j u hu
    cases hb
    exact pw_cell_below HB.out (cell_enc HR0.out j u hu)
  case c3 =>
    intro v2 w2 ho hg
    have HO := Aside0.mk ho
    have HG := Aside0.mk hg
    clear ho hg
    go_wp2
    go_ret
    refine ⟨_, rfl, Kd.R_of_own ?_ (fun _ _ => trivial), below_then HB.out HB.out.size ⟨HG.out.os, HG.out.tape, HG.out.output, HG.out.size, fun k hk => HG.out.block k hk (by simp)⟩⟩
    have h := HO.out
    rw [show (l0 ++ fourL x).length = l0.length + 4 by simp [fourL], encs_append]
    exact own_less h HB.out.size
end Go.Proofs.YtipefhadafildaaDoor.G
