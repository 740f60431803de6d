/- Arguments that are lists, of lists or of structs, opened (this claim's own lemmas). -/
import Derived.Test.YtnamanalacjhnaaBulk
import Derived.Test.YtnamanalacjhnaaWWords
import Derived.Deep.Slices
import Derived.Deep.Fields
import Derived.ChangeSame
import Derived.ChangeArms
import Derived.SizedLaws
namespace Go.Proofs.Ytnamanalacjhnaa
namespace Opn
open Go.ChangeShapes Go.WideShapes Go.ChangeAt Go.RowKit Go.Deep
open YtnamanalacjhnaaW.PrintWords
set_option linter.unusedVariables false
/-- The values of a type that came in, read as kind d: what holds of them; how much they bulk. -/
def Opens {H : Type} (enc : TypeId × Value → H) (P : Program) (W : World) (e : TypeId) {α : Type} (d : Kd α) (G : α → Prop) (wt : α → Nat) : Prop :=
  ∀ (base : Nat) (held : Bool) (fuel : Nat) (cs : List Value) (x : DataW H × List MemPlace), DataW.trod enc P W base (fun _ => true) held fuel e cs = some x → (∀ n ∈ x.1.weights P e, n ≤ 140737488351232) → ∃ v, d.K W v cs ∧ G v ∧ wt v ≤ Rows.uptoBulk x.1
section
variable {H : Type} {enc : TypeId × Value → H} {P : Program} {W : World} {t e : TypeId}
theorem opens_int {k : IntKind} (he : P.underlying e = some (.int k)) : Opens enc P W e (Kd.int k) (fun n => (Lit.int k n).wf = true) (fun _ => 1) := by
  intro base held fuel cs x h hw
  obtain ⟨n, rfl, rfl, hwf⟩ := DataW.trod_int he h
  exact ⟨n, rfl, hwf, by simp [Rows.uptoBulk]⟩
theorem opens_bool (he : P.underlying e = some .bool) : Opens enc P W e Kd.bool (fun _ => True) (fun _ => 1) := by
  intro base held fuel cs x h hw
  obtain ⟨n, rfl, rfl⟩ := DataW.trod_bool he h
  exact ⟨n, rfl, trivial, by simp [Rows.uptoBulk]⟩
theorem opens_str (he : P.underlying e = some .string) : Opens enc P W e Kd.string (fun s => s.size ≤ 140737488351232) (fun s => s.size + 1) := by
  intro base held fuel cs x h hw
  obtain ⟨s, rfl, rfl, hm⟩ := DataW.trod_string he h
  have hl : s.data.toList.length = s.size := Array.length_toList
  refine ⟨s, rfl, ?_, by simp only [Rows.uptoBulk, hl]; exact Nat.le_refl _⟩
  have := hw s.data.toList.length (by simp [DataW.weights])
  rw [hl] at this
  exact this
theorem list_of {α : Type} (n : Nat) (Q : Nat → α → Prop) (h : ∀ i, i < n → ∃ v, Q i v) : ∃ l : List α, l.length = n ∧ ∀ i v, l[i]? = some v → Q i v := by
  induction n with
  | zero => exact ⟨[], rfl, fun i v hv => by simp at hv⟩
  | succ n ih =>
    obtain ⟨l, hl, hq⟩ := ih (fun i hi => h i (by omega))
    obtain ⟨v, hv⟩ := h n (by omega)
    refine ⟨l ++ [v], by simp [hl], fun i u hu => ?_⟩
    by_cases hi : i < l.length
    · rw [List.getElem?_append_left hi] at hu
      exact hq i u hu
    · rw [List.getElem?_append_right (by omega)] at hu
      have h0 : i - l.length = 0 := by
        have := (List.getElem?_eq_some_iff.1 hu).1
        simp at this
        omega
      rw [h0] at hu
      simp at hu
      have hin : i = n := by omega
      subst hu
      subst hin
      exact hv
theorem bulk_all (l : List (DataW H)) : Rows.uptoBulkAll l = (l.map Rows.uptoBulk).sum := by
  induction l with
  | nil => simp [Rows.uptoBulkAll]
  | cons d l ih => simp [Rows.uptoBulkAll, ih]
theorem weights_all {d : DataW H} {l : List (DataW H)} (hd : d ∈ l) : ∀ n ∈ d.weights P e, n ∈ DataW.weightsAll P e l := by
  induction l with
  | nil => cases hd
  | cons y l ih =>
    intro n hn
    simp only [DataW.weightsAll, List.mem_append]
    rcases List.mem_cons.1 hd with rfl | hd
    · exact .inl hn
    · exact .inr (ih hd n hn)
theorem sum_bulk {α : Type} (wt : α → Nat) (l : List α) : ∀ (D : Nat → DataW H) (o : Nat), (∀ i v, l[i]? = some v → wt v ≤ Rows.uptoBulk (D (o + i))) → (l.map wt).sum ≤ (((List.range l.length).map fun i => D (o + i)).map Rows.uptoBulk).sum := by
  induction l with
  | nil => intro D o h; simp
  | cons x l ih =>
    intro D o h
    have h0 := h 0 x rfl
    have h1 := ih D (o + 1) (fun i v hv => by rw [Nat.add_assoc, Nat.add_comm 1]; exact h (i + 1) v (by simpa using hv))
    simp only [List.map_cons, List.sum_cons, List.length_cons, List.range_succ_eq_map, List.map_map]
    simp only [List.map_map] at h1
    have e : (Rows.uptoBulk ∘ (fun i => D (o + i)) ∘ Nat.succ) = (Rows.uptoBulk ∘ fun i => D (o + 1 + i)) := by
      funext i
      simp only [Function.comp]
      rw [show o + i.succ = o + 1 + i by omega]
    rw [e]
    simp only [Nat.add_zero] at h0 ⊢
    omega
theorem opens_slice {α : Type} {d : Kd α} {G : α → Prop} {wt : α → Nat} (ht : P.underlying t = some (.slice e)) (hc : P.cellsOf e = d.sz) (h : Opens enc P W e d G wt) :
    Opens enc P W t (Kd.slice e d) (fun l => l.length * P.bytesOf e ≤ 140737488351232 ∧ ∀ x ∈ l, G x) (fun l => (l.map wt).sum + 1) := by
  intro base held fuel cs x hx hw
  rcases open_slice ht hx with ⟨rfl, rfl⟩ | ⟨a, len, cap, m, n, D, Pl, rfl, hb, hl, hm, hmm, rfl, hi⟩
  · exact ⟨[], ⟨none, 0, rfl, Nat.le_refl _, Kd.C_nil _ _⟩, ⟨by simp, fun x hx => by cases hx⟩, by simp [Rows.uptoBulk]⟩
  · simp only [if_true] at hmm
    subst hmm
    have hwe : ∀ i, i < m → ∀ q ∈ (D i).weights P e, q ≤ 140737488351232 := by
      intro i him q hq
      refine hw q ?_
      simp only [DataW.weights, ht, List.mem_cons, List.mem_append]
      right
      by_cases hil : i < len
      · exact .inl (weights_all (List.mem_map.2 ⟨i, List.mem_range.2 hil, rfl⟩) q hq)
      · exact .inr (weights_all (List.mem_map.2 ⟨i - len, List.mem_range.2 (by omega), by rw [show len + (i - len) = i by omega]⟩) q hq)
    obtain ⟨l, hll, hq⟩ := list_of len (fun i v => ∃ cs', W.cells? base (a.add (i * P.cellsOf e)) (P.cellsOf e) = some cs' ∧ d.K W v cs' ∧ G v ∧ wt v ≤ Rows.uptoBulk (D i)) (fun i hil => by
      obtain ⟨cs', h1, h2⟩ := hi i (by omega)
      obtain ⟨v, k1, k2, k3⟩ := h base held n cs' (D i, Pl i) h2 (hwe i (by omega))
      exact ⟨v, cs', h1, k1, k2, k3⟩)
    refine ⟨l, ⟨some a, m, by rw [hll], by omega, rfl, by unfold maxLen at hm; omega, fun h0 => ⟨a, rfl, fun j p hp => ?_⟩⟩, ⟨?_, fun v hv => ?_⟩, ?_⟩
    · obtain ⟨cs', h1, k1, k2, k3⟩ := hq j p hp
      obtain ⟨_, hcl, hat⟩ := World.cells?_some h1
      rw [hc] at hcl hat
      refine ⟨cs', hcl, k1, fun i u hu => ?_⟩
      have hil : i < d.sz := by rw [← hcl]; exact (List.getElem?_eq_some_iff.1 hu).1
      have := hat i hil
      rw [hu, Go.Deep.add_add] at this
      exact this
    · have := hw ((len + (m - len)) * P.bytesOf e) (by simp [DataW.weights, ht])
      rw [hll]
      refine Nat.le_trans (Nat.mul_le_mul_right _ ?_) this
      omega
    · obtain ⟨i, hiv⟩ := List.getElem?_of_mem hv
      obtain ⟨cs', h1, k1, k2, k3⟩ := hq i v hiv
      exact k2
    · have hs := sum_bulk wt l D 0 (fun i v hv => by
        obtain ⟨cs', h1, k1, k2, k3⟩ := hq i v hv
        rw [Nat.zero_add]
        exact k3)
      simp only [Nat.zero_add] at hs
      rw [hll] at hs
      have e0 : (fun i => D i) = D := rfl
      rw [e0] at hs
      simp only [Rows.uptoBulk, bulk_all]
      omega
theorem field_at {fs : Array Field} {cs : List Value} (hone : oneCellFields P fs = true) (hcl : cs.length = fs.size) {xs : List (DataW H × List MemPlace)} {n base : Nat} {held : Bool}
    (hf : ∀ (i : Nat) (f : Field), fs[i]? = some f → DataW.trod enc P W base (fun _ => true) held n f.type ((cs.drop f.offset).take (P.cellsOf f.type)) = xs[i]?) (j : Nat) (f : Field) (hj : fs[j]? = some f) : ∃ v, cs[j]? = some v ∧ DataW.trod enc P W base (fun _ => true) held n f.type [v] = xs[j]? := by
  obtain ⟨ho, hk⟩ := hone_of hone j f hj
  have hjl : j < cs.length := by rw [hcl]; exact (Array.getElem?_eq_some_iff.1 hj).1
  have h1 := hf j f hj
  rw [ho, hk, List.drop_eq_getElem_cons hjl] at h1
  exact ⟨cs[j], List.getElem?_eq_getElem hjl, h1⟩
theorem each_mem {ts : List TypeId} {ds : List (DataW H)} {j : Nat} {u : TypeId} {d : DataW H} (ht : ts[j]? = some u) (hd : ds[j]? = some d) (hw : ∀ n ∈ DataW.weightsEach P ts ds, n ≤ 140737488351232) : ∀ n ∈ d.weights P u, n ≤ 140737488351232 := fun n hn => hw n (DataW.weights_mem_each ht hd n hn)
/-- A struct of a text, a bool, a text. -/
theorem opens_sbs {α : Type} {d : Kd α} {f0 f1 f2 : Field} {mk : ByteArray → Bool → ByteArray → α} {G : α → Prop} {wt : α → Nat} (ht : P.underlying t = some (.struct #[f0, f1, f2])) (hone : oneCellFields P #[f0, f1, f2] = true) (hC : P.cellsOf t = 3)
    (h0 : P.underlying f0.type = some .string) (h1 : P.underlying f1.type = some .bool) (h2 : P.underlying f2.type = some .string) (hK : ∀ a b c, d.K W (mk a b c) [.string a, .bool b, .string c])
    (hG : ∀ a b c, a.size ≤ 140737488351232 → c.size ≤ 140737488351232 → G (mk a b c)) (hwt : ∀ a b c, wt (mk a b c) ≤ a.size + c.size + 4) : Opens enc P W t d G wt := by
  intro base held fuel cs x hx hw
  obtain ⟨xs, n, _, rfl, hcl, hxl, hf⟩ := DataW.trod_struct ht hx
  rw [hC] at hcl
  obtain ⟨v0, e0, g0⟩ := field_at hone hcl hf 0 f0 rfl
  obtain ⟨v1, e1, g1⟩ := field_at hone hcl hf 1 f1 rfl
  obtain ⟨v2, e2, g2⟩ := field_at hone hcl hf 2 f2 rfl
  have hxl' : xs.length = 3 := hxl
  match xs, hxl' with
  | [y0, y1, y2], _ =>
    match cs, hcl with
    | [c0, c1, c2], _ =>
      simp only [List.getElem?_cons_zero, List.getElem?_cons_succ, Option.some.injEq] at e0 e1 e2 g0 g1 g2
      subst e0 e1 e2
      simp only [List.map_cons, List.map_nil, DataW.weights, ht] at hw
      have w0 := each_mem (P := P) (j := 0) (ts := [f0.type, f1.type, f2.type]) (ds := [y0.1, y1.1, y2.1]) rfl rfl hw
      have w2 := each_mem (P := P) (j := 2) (ts := [f0.type, f1.type, f2.type]) (ds := [y0.1, y1.1, y2.1]) rfl rfl hw
      obtain ⟨s0, hk0, q0, b0⟩ := opens_str h0 base held n [c0] y0 g0 w0
      obtain ⟨s1, hk1, q1, b1⟩ := opens_bool h1 base held n [c1] y1 g1 (fun n hn => by
        obtain ⟨b, _, hy⟩ := DataW.trod_bool h1 g1
        rw [hy] at hn
        simp [DataW.weights] at hn)
      obtain ⟨s2, hk2, q2, b2⟩ := opens_str h2 base held n [c2] y2 g2 w2
      have k0 : c0 = .string s0 := List.cons.inj hk0 |>.1
      have k1 : c1 = .bool s1 := List.cons.inj hk1 |>.1
      have k2 : c2 = .string s2 := List.cons.inj hk2 |>.1
      subst k0 k1 k2
      refine ⟨mk s0 s1 s2, hK _ _ _, hG _ _ _ q0 q2, ?_⟩
      have := hwt s0 s1 s2
      dsimp only at b0 b1 b2
      simp only [List.map_cons, List.map_nil, Rows.uptoBulk, Rows.uptoBulkAll]
      omega
/-- A slice that is an argument. -/
theorem slice_arg {α : Type} {d : Kd α} {G : List α → Prop} {wt : List α → Nat} {base : Nat} {held : Bool} {a : Option Addr} {len cap : Nat} {da : DataW H} {ps : List MemPlace} {ts : List TypeId} {ds : List (DataW H)} {j : Nat} (ho : Opens enc P W t (Kd.slice e d) G wt)
    (hsz : (DataW.weightsEach P ts ds).all (· ≤ reachBytes) = true) (hts : ts[j]? = some t) (hds : ds[j]? = some da) (h : DataW.Trod enc P W base (fun _ => true) held t (.slice a len cap) da ps) :
    ∃ l : List α, len = l.length ∧ d.C W a l.length l ∧ l.length ≤ cap ∧ G l ∧ wt l ≤ Rows.uptoBulk da := by
  obtain ⟨fuel, hf⟩ := h
  obtain ⟨l, ⟨A, c, he, hlc, hC⟩, hg, hb⟩ := ho base held fuel _ _ hf (fun n hn => by
    exact of_decide_eq_true (List.all_eq_true.1 hsz n (DataW.weights_mem_each hts hds n hn)))
  simp only [Value.cells, List.cons.injEq, and_true, Value.slice.injEq] at he
  obtain ⟨rfl, rfl, rfl⟩ := he
  exact ⟨l, rfl, hC, hlc, hg, hb⟩
end
end Opn
end Go.Proofs.Ytnamanalacjhnaa
