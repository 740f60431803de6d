/- Does a frame's end hold its sum? (this claim's own lemmas) -/
import Derived.Test.YtipefhadafildaaDoorGEnds
import Derived.BigQuiet
import Derived.Deep.QuietTactic
import Derived.Deep.DeepCutAuto
namespace Go.Proofs.YtipefhadafildaaDoor.G
open Go.RowKit Go.Proofs.YtipefhadafildaaDoorW.PrintWords Go.Proofs.YtipefhadafildaaDoor.Own
set_option linter.unusedVariables false
/-- What 'sum' answers, cut behind its first n bytes, is the four bytes. -/
theorem tail_form {P : Program} {t e : TypeId} {i : TypeInfo} {w : World} {base n : Nat} {v : Value} {l : List Int} {x : Int} (ht : P.underlying t = some (.slice e)) (hi : P.info? e = some i) (hsz : i.size = 1) (h : Kd.R (Kd.int .u8) 5 w base (fun _ => True) v (l ++ fourL x)) (hn : l.length = n) :
    ∃ A c, v = .slice A (n + 4) c ∧ n + 4 ≤ c ∧ ∃ A2 c2, (∀ W : World, (Instr.slice t (.slice A (n + 4) c) (some (.int .i64 (n : Int))) none none).run P W = .ok (.slice A2 4 c2) W) ∧
      ∀ {d : TypeId} (he : P.underlying e = some (.int .u8)) (hd : P.underlying d = some .string), (convert t d (.slice A2 4 c2)).run P w = .ok (.string (strOfNums (fourL x))) w := by
  obtain ⟨A, c, rfl, h1, h2⟩ := Kd.R_reads h
  have hl : (l ++ fourL x).length = n + 4 := by simp [fourL, hn]
  rw [hl] at h1 h2 ⊢
  have hcut := cut_from (P := P) t e .i64 ht hi 1 hsz A (n + 4) c (n : Int) (by omega) (by omega)
  have hd0 := Kd.C_drop (k := Kd.int .u8) (m := n) (by rw [hl]; exact h2) (by omega) (by omega : (l ++ fourL x).length ≤ c)
  rw [show (l ++ fourL x).drop n = fourL x by rw [← hn, List.drop_left]] at hd0
  refine ⟨A, c, rfl, h1, if c = n then A else A.map (·.add (n * 1)), c - n, fun W => by rw [hcut W]; simp, fun he hd => ?_⟩
  exact Kd.C_string ht he hd hd0
set_option maxHeartbeats 1000000 in
set_option maxRecDepth 100000 in
theorem ends_calls (ad ad2 : Addr) (c2 : Nat) (l0 f : List Int) (w : World) (hr0 : Kd.C (Kd.int .u8) w (some ad) l0.length l0) (hr1 : Kd.C (Kd.int .u8) w (some ad2) 4 f) (hl : Bytes l0) (hlen : l0.length ≤ 140737488351232) (hT : GT w) :
    Calls Tryd.prog 44 #[.slice (some ad) l0.length l0.length, .slice (some ad2) 4 c2] w fun e w' => e = .returned (.bool (strOfNums (fourL (sumF l0)) == strOfNums f)) ∧ Below w.heap.size w w' := by
  have HR0 := Aside0.mk hr0
  have HR1 := Aside0.mk hr1
  have HT := Aside0.mk hT
  have HL := Aside0.mk hl
  obtain ⟨n, hn⟩ : ∃ n, n = l0.length := ⟨_, rfl⟩
  obtain ⟨z, hz⟩ : ∃ z, z = strOfNums (fourL (sumF l0)) := ⟨_, rfl⟩
  obtain ⟨y, hy⟩ : ∃ y, y = strOfNums f := ⟨_, rfl⟩
  rw [← hn, ← hz, ← hy]
  have HN := Aside0.mk hn
  have HZ := Aside0.mk hz
  have HY := Aside0.mk hy
  have hlen' : n ≤ 140737488351232 := by omega
  have hcv0 := Kd.C_string (P := Tryd.prog) (w := w.drew) (A := some ad2) (c := c2) (n := 4) (xs := f) Tryd.underlying22 Tryd.underlying5 Tryd.underlying9 HR1.out
  rw [← HY.out] at hcv0
  obtain ⟨i0, hi0, hz0, hz1, hz2⟩ := info_parts infoB
  have HI := Aside0.mk (And.intro hi0 hz1)
  clear hr0 hr1 hT hl hn hz hy hlen hi0 hz0 hz1 hz2
  go_enter Tryd.func44, Tryd.ntmps44
  go_wp2
  go_region_with (first
    | (go_at_call 39; (have hcall := sum_full ad l0 w.drew HR0.out HL.out (by rw [← HN.out]; exact hlen') HT.out); rw [← HN.out] at hcall; refine hcall.mono ?_; clear hcall; rintro e w1 ⟨v1, rfl, ho, hb⟩; (obtain ⟨A1, c1, e1, hA1, hA2⟩ := tail_form (P := Tryd.prog) Tryd.underlying22 HI.out.1 HI.out.2 ho (show l0.length = n from HN.out.symm)); subst e1; (have hcv1 := Kd.C_string (P := Tryd.prog) (w := w1) (A := some ad2) (c := c2) (n := 4) (xs := f) Tryd.underlying22 Tryd.underlying5 Tryd.underlying9 (Kd.C_below (show Kd.C (Kd.int .u8) w.drew (some ad2) 4 f from HR1.out) hb)); rw [← HY.out] at hcv1; (obtain ⟨A2, c3, hcut, hcv2⟩ := hA2); (have hcv3 := hcv2 Tryd.underlying5 Tryd.underlying9); clear hcv2; rw [← HZ.out] at hcv3; (have HB := Aside0.mk hb); clear hb ho))
  all_goals go_wp2
  all_goals go_ret
  all_goals exact ⟨by rw [beq_toListBytes]; rfl, HB.out.os, HB.out.tape, HB.out.output, HB.out.size, HB.out.block⟩
def unframeL (l : List Int) : List Int × Int × Int :=
  if (uintN l).2.2 ≠ 0 then ([], 0, ((uintN l).2.2 : Int))
  else if (uintN l).1 > 262144 then ([], 0, 22)
  else if (uintN l).1 + 4 > l.length - (uintN l).2.1 then ([], 0, 20)
  else if fourL (sumF (l.take ((uintN l).2.1 + (uintN l).1))) = (l.take ((uintN l).2.1 + (uintN l).1 + 4)).drop ((uintN l).2.1 + (uintN l).1) then ((l.take ((uintN l).2.1 + (uintN l).1)).drop (uintN l).2.1, (((uintN l).2.1 + (uintN l).1 + 4 : Nat) : Int), 0)
  else ([], 0, 23)
def frameL (l : List Int) : List Int := (numL l.length ++ l) ++ fourL (sumF (numL l.length ++ l))
theorem bytes_four {x : Int} (h : U32 x) : Bytes (fourL x) := by
  obtain ⟨h0, h1⟩ := h
  intro y hy
  simp only [fourL, List.mem_cons, List.not_mem_nil, or_false] at hy
  rcases hy with rfl | rfl | rfl | rfl <;> omega
theorem nums_inj (l : List Int) : ∀ f : List Int, Bytes l → Bytes f → (l.map fun n => UInt8.ofNat n.toNat) = (f.map fun n => UInt8.ofNat n.toNat) → l = f := by
  induction l with
  | nil =>
    intro f _ _ he
    cases f with
    | nil => rfl
    | cons => simp at he
  | cons a l ih =>
    intro f hl hf he
    cases f with
    | nil => simp at he
    | cons b f =>
      simp only [List.map_cons, List.cons.injEq] at he
      have ha := hl a (by simp)
      have hb := hf b (by simp)
      rw [ih f (fun y hy => hl y (by simp [hy])) (fun y hy => hf y (by simp [hy])) he.2]
      have h1 := congrArg UInt8.toNat he.1
      simp only [UInt8.toNat_ofNat'] at h1
      congr 1
      omega
theorem nums_eq {l f : List Int} (hl : Bytes l) (hf : Bytes f) : (strOfNums l == strOfNums f) = decide (l = f) := by
  rw [beq_toListBytes, ByteArray.toList_eq, ByteArray.toList_eq, strOfNums_data, strOfNums_data]
  rw [Bool.eq_iff_iff, beq_iff_eq, decide_eq_true_iff]
  exact ⟨nums_inj l f hl hf, fun h => by rw [h]⟩
theorem cut_hm {P : Program} (t e : TypeId) (k1 k2 : IntKind) {i : TypeInfo} (ht : P.underlying t = some (.slice e)) (hi : P.info? e = some i) (ad : Addr) (n c : Nat) (j : Int) (h0 : 0 ≤ j) (hm : j ≤ n) (hc : n ≤ c) :
    ∀ W : World, (Instr.slice t (.slice (some ad) n c) none (some (.int k1 j)) (some (.int k2 j))).run P W = .ok (.slice (some ad) j.toNat j.toNat) W := by
  intro W
  have hel : P.elem t = e := by simp [Program.elem, ht]
  have hu : P.underlying t = some (.slice (P.elem t)) := by rw [hel]; exact ht
  rw [run_slice_hm W t (some ad) n c hu k1 k2 j j (by omega) (by omega) (by omega), hel]
  simp [sizeOf, typeInfo, hi, sliced, Result.andThen]
  intro _
  cases ad
  rfl
theorem cut_piece {P : Program} (t e : TypeId) {i : TypeInfo} (ht : P.underlying t = some (.slice e)) (hi : P.info? e = some i) (hsz : i.size = 1) (A : Option Addr) (c : Nat) (xs : List Int) (a b : Int) (ys : List Int) (m : Nat) (h0 : 0 ≤ a) (h1 : a ≤ b) (hm : b ≤ xs.length) (hc : xs.length ≤ c) (hys : (xs.take b.toNat).drop a.toNat = ys) (hlen : ys.length = m) :
    ∃ A' c', (∀ W : World, (Instr.slice t (.slice A xs.length c) (some (.int .i64 a)) (some (.int .i64 b)) none).run P W = .ok (.slice A' m c') W) ∧ (∀ w : World, Kd.C (Kd.int .u8) w A xs.length xs → Kd.C (Kd.int .u8) w A' ys.length ys) ∧ m ≤ c' := by
  obtain ⟨A', hcut, hA, hC⟩ := print_mid_of (P := P) (Value.int .u8) (0 : Int) t e .i64 .i64 ht hi hsz A c xs a b h0 h1 hm hc
  rw [hys] at hcut hA hC
  refine ⟨A', _, fun W => by rw [hcut W, hlen], fun w h => ?_, by omega⟩
  exact Kd.C_of_reads (h1 := fun _ => rfl) (hA w (Kd.reads_of_C h))
theorem C_take0 {w : World} {A : Option Addr} {xs : List Int} (h : Kd.C (Kd.int .u8) w A xs.length xs) (m : Nat) (hm : m ≤ xs.length) (ys : List Int) (hys : xs.take m = ys) : Kd.C (Kd.int .u8) w A ys.length ys := by
  subst hys
  exact Kd.C_take h hm
theorem four_eq {x : Int} (h : U32 x) : ([x % 256, (x / 256) % 256, (x / 65536) % 256, (x / 16777216) % 256] : List Int) = fourL x := by
  obtain ⟨h0, h1⟩ := h
  unfold fourL
  rw [show x / 16777216 % 256 = x / 16777216 by omega]
theorem bytes_app {l m : List Int} (hl : Bytes l) (hm : Bytes m) : Bytes (l ++ m) := fun y hy => by
  rcases List.mem_append.1 hy with h | h
  · exact hl y h
  · exact hm y h
theorem four_len (x : Int) : (fourL x).length = 4 := rfl
theorem ends_calls' (ad : Addr) (A2 : Option Addr) (n c2 : Nat) (l0 f : List Int) (w : World) (hr0 : Kd.C (Kd.int .u8) w (some ad) l0.length l0) (hr1 : Kd.C (Kd.int .u8) w A2 f.length f) (hl : Bytes l0) (hf : Bytes f) (hn : l0.length = n) (hf4 : f.length = 4) (hlen : n ≤ 140737488351232) (hT : GT w) :
    Calls Tryd.prog 44 #[.slice (some ad) n n, .slice A2 4 c2] w fun e w' => e = .returned (.bool (decide (fourL (sumF l0) = f))) ∧ Below w.heap.size w w' := by
  subst hn
  obtain ⟨ad2, rfl, _⟩ := hr1.2.2 (by omega)
  rw [hf4] at hr1
  rw [← nums_eq (bytes_four (sumF_range hl)) hf]
  exact ends_calls ad ad2 c2 l0 f w hr0 hr1 hl hlen hT
end Go.Proofs.YtipefhadafildaaDoor.G
