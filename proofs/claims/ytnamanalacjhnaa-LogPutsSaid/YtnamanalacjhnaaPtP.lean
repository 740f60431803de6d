/- The record of a group (plain functions and laws; this claim's own definitions). -/
import Derived.Test.YtnamanalacjhnaaPtS
namespace Go.Proofs.Ytnamanalacjhnaa.Pt
open Go.RowKit Go.Proofs.YtnamanalacjhnaaW.PrintWords Go.Proofs.Ytnamanalacjhnaa.Own Go.Proofs.Ytnamanalacjhnaa.QPt
open Go.Proofs.Ytnamanalacjhnaa.Sm (parts partsG)
set_option linter.unusedVariables false
abbrev Wr := S64
def txL (s : ByteArray) : List Int := numL s.size ++ bytesOf s
def wrL (x : Wr) : List Int := if x.f1 = true then 1 :: txL x.f0 else 0 :: (txL x.f0 ++ txL x.f2)
def batL (l : List Wr) : List Int := numL l.length ++ l.flatMap wrL
def putL (a : Nat) (g : List (List Wr)) : List Int := numL a ++ (numL g.length ++ g.flatMap batL)
/-- A delete's value counts as empty. -/
def clr (x : Wr) : Wr := if x.f1 = true then ⟨x.f0, true, (⟨#[]⟩ : ByteArray)⟩ else x
def OkW (x : Wr) : Prop := 1 ≤ x.f0.size ∧ x.f0.size ≤ 64 ∧ (x.f1 = false → x.f2.size ≤ 512)
def OkB (l : List Wr) : Prop := l.length ≤ 16 ∧ ∀ x ∈ l, OkW x
theorem tx_len (s : ByteArray) : (txL s).length = (numL s.size).length + s.size := by unfold txL; rw [List.length_append, bytesOf_length]
theorem tx_bytes (s : ByteArray) : Bytes (txL s) := fun x hx => by
  rcases List.mem_append.1 hx with h | h
  · exact numL_bytes _ x h
  · simp only [bytesOf, List.mem_map] at h
    obtain ⟨b, _, rfl⟩ := h
    have := b.toNat_lt
    omega
theorem cons_bytes {a : Int} {l : List Int} (h0 : 0 ≤ a ∧ a ≤ 255) (h : Bytes l) : Bytes (a :: l) := fun x hx => by
  rcases List.mem_cons.1 hx with rfl | hx
  · exact h0
  · exact h x hx
theorem app_bytes {l m : List Int} (hl : Bytes l) (hm : Bytes m) : Bytes (l ++ m) := fun x hx => by
  rcases List.mem_append.1 hx with h | h
  · exact hl x h
  · exact hm x h
theorem wr_bytes (x : Wr) : Bytes (wrL x) := by
  unfold wrL
  split
  · exact cons_bytes (by decide) (tx_bytes _)
  · exact cons_bytes (by decide) (app_bytes (tx_bytes _) (tx_bytes _))
theorem flat_bytes {α : Type} {f : α → List Int} (h : ∀ x, Bytes (f x)) (l : List α) : Bytes (l.flatMap f) := fun y hy => by
  obtain ⟨x, _, hx⟩ := List.mem_flatMap.1 hy
  exact h x y hx
theorem bat_bytes (l : List Wr) : Bytes (batL l) := app_bytes (numL_bytes _) (flat_bytes wr_bytes l)
theorem put_bytes (a : Nat) (g : List (List Wr)) : Bytes (putL a g) := app_bytes (numL_bytes _) (app_bytes (numL_bytes _) (flat_bytes bat_bytes g))
theorem wr_len (x : Wr) (h0 : x.f0.size ≤ 32768) (h2 : x.f2.size ≤ 32768) : (wrL x).length ≤ 21 * (1 + x.f0.size + x.f2.size) := by
  have e0 := numL_len10 (n := x.f0.size) (by omega)
  have e2 := numL_len10 (n := x.f2.size) (by omega)
  unfold wrL
  split
  · rw [List.length_cons, tx_len]; omega
  · rw [List.length_cons, List.length_append, tx_len, tx_len]; omega
theorem wrs_len (l : List Wr) : parts l ≤ 32768 → (l.flatMap wrL).length ≤ 21 * parts l := by
  induction l with
  | nil => intro _; simp
  | cons x l ih =>
    intro h
    have hp : parts (x :: l) = 1 + x.f0.size + x.f2.size + parts l := by simp [parts]
    have h1 := wr_len x (by omega) (by omega)
    have h2 := ih (by omega)
    rw [List.flatMap_cons, List.length_append, hp]
    omega
theorem len_parts (l : List Wr) : l.length ≤ parts l := by
  induction l with
  | nil => simp
  | cons x l ih =>
    have hp : parts (x :: l) = 1 + x.f0.size + x.f2.size + parts l := by simp [parts]
    rw [hp, List.length_cons]
    omega
theorem mem_parts {l : List Wr} {x : Wr} (h : x ∈ l) : 1 + x.f0.size + x.f2.size ≤ parts l := by
  induction l with
  | nil => cases h
  | cons y l ih =>
    have hp : parts (y :: l) = 1 + y.f0.size + y.f2.size + parts l := by simp [parts]
    rcases List.mem_cons.1 h with rfl | h
    · omega
    · have := ih h; omega
theorem mem_partsG {g : List (List Wr)} {l : List Wr} (h : l ∈ g) : parts l ≤ (g.map parts).sum := by
  induction g with
  | nil => cases h
  | cons y g ih =>
    rw [List.map_cons, List.sum_cons]
    rcases List.mem_cons.1 h with rfl | h
    · omega
    · have := ih h; omega
theorem bats_len (g : List (List Wr)) : (g.map parts).sum ≤ 32768 → g.length ≤ 32768 → (g.flatMap batL).length ≤ 31 * (g.length + (g.map parts).sum) := by
  induction g with
  | nil => intro _ _; simp
  | cons l g ih =>
    intro h hg
    rw [List.map_cons, List.sum_cons] at h
    have h1 := wrs_len l (by omega)
    have h2 := len_parts l
    have h3 := numL_len10 (n := l.length) (by omega)
    have h4 := ih (by omega) (by simp only [List.length_cons] at hg; omega)
    rw [List.flatMap_cons, List.length_append, List.map_cons, List.sum_cons, List.length_cons]
    unfold batL at h4 ⊢
    rw [List.length_append]
    omega
theorem put_len (a : Nat) (g : List (List Wr)) (ha : a < 18446744073709551616) (h : partsG g ≤ 32768) : (putL a g).length ≤ 2000000 := by
  unfold partsG at h
  have h1 := numL_len10 ha
  have h2 := numL_len10 (n := g.length) (by omega)
  have h3 := bats_len g (by omega) (by omega)
  unfold putL
  simp only [List.length_append]
  omega
theorem ww (n : Nat) (h : n < 4294967295) : wrap64 ((n : Int) + 1) = ((n + 1 : Nat) : Int) := by unfold wrap64; omega
theorem rdT (l : List Wr) (i : Nat) (h : i < l.length) : rd_T64 l (i : Int) = l[i] := by simp [rd_T64, List.getD_eq_getElem?_getD, h]
theorem rdG (g : List (List Wr)) (i : Nat) (h : i < g.length) : rd_L3 g (i : Int) = g[i] := by simp [rd_L3, List.getD_eq_getElem?_getD, h]
theorem putUint_eq (n : Nat) (h : n < 18446744073709551616) : codec_PutUint.f ([] : List Int) (n : Int) = some (numL n) := by
  unfold codec_PutUint.f
  rw [if_pos ⟨by omega, by omega, by simp⟩]
  simp
theorem putLen_eq (n : Nat) (h : n < 18446744073709551616) : codec_PutUint.f ([] : List Int) (IntKind.u64.wrap (n : Int)) = some (numL n) := by rw [u64_nat h]; exact putUint_eq n h
theorem putText_eq (s : ByteArray) (h : s.size ≤ 32768) : codec_PutText.f ([] : List Int) s = some (txL s) := by
  unfold codec_PutText.f
  rw [if_pos (by simp; omega)]
  rfl
theorem put_inner (G : List (List Wr)) (n i : Nat) (l : List Wr) (hl : l.length ≤ 32768) (hp : parts l ≤ 32768) (R : List Int) (d : Nat) : ∀ (j : Nat) (acc : List Int), j + d = l.length → (acc ++ (l.drop j).flatMap wrL).length ≤ 1000000000 →
    Ev (fun k => log_Put.l0 k (acc ++ (l.drop j).flatMap wrL) G (n : Int) (wrap64 ((i : Int) + 1))) R → Ev (fun k => log_Put.l1 k acc G (n : Int) (i : Int) l (l.length : Int) (j : Int)) R := by
  induction d with
  | zero =>
    intro j acc hj hb h
    rw [List.drop_of_length_le (by omega), List.flatMap_nil, List.append_nil] at h
    exact Ev.step (fun k => by rw [log_Put.l1, if_neg (by omega)]) h
  | succ d ih =>
    intro j acc hj hb h
    have hlt : j < l.length := by omega
    have hm := mem_parts (List.getElem_mem hlt)
    rw [List.drop_eq_getElem_cons hlt, List.flatMap_cons, ← List.append_assoc] at hb h
    have hx := rdT l j hlt
    have hb' := hb
    rw [List.length_append, List.length_append] at hb'
    refine Ev.step (fun k => ?_) (ih (j + 1) (acc ++ wrL l[j]) (by omega) hb h)
    rw [log_Put.l1, if_pos (show (j : Int) < (l.length : Int) by omega), if_pos (show (0 : Int) ≤ (j : Int) by omega), if_pos (show (j : Int) < (l.length : Int) by omega), hx, ww j (by omega)]
    by_cases hd : l[j].f1 = true
    · have e : wrL l[j] = 1 :: txL l[j].f0 := by unfold wrL; rw [if_pos hd]
      rw [e, List.length_cons] at hb'
      rw [if_pos hd, if_pos (show acc.length < 140737488355328 by omega), Option.bind_some, putText_eq _ (by omega), Option.bind_some, if_pos (by rw [List.length_append]; simp; omega), List.append_assoc, e]
      rfl
    · have e : wrL l[j] = 0 :: (txL l[j].f0 ++ txL l[j].f2) := by unfold wrL; rw [if_neg hd]
      rw [e, List.length_cons, List.length_append] at hb'
      rw [if_neg hd, if_pos (show acc.length < 140737488355328 by omega), Option.bind_some, putText_eq _ (by omega), Option.bind_some, if_pos (by rw [List.length_append]; simp; omega), Option.bind_some, putText_eq _ (by omega), Option.bind_some, if_pos (by rw [List.length_append, List.length_append]; simp; omega), List.append_assoc, List.append_assoc, e]
      rfl
theorem put_outer (G : List (List Wr)) (hG : partsG G ≤ 32768) (d : Nat) : ∀ (i : Nat) (acc : List Int), i + d = G.length → (acc ++ (G.drop i).flatMap batL).length ≤ 1000000000 →
    Ev (fun k => log_Put.l0 k acc G (G.length : Int) (i : Int)) (acc ++ (G.drop i).flatMap batL) := by
  induction d with
  | zero =>
    intro i acc hi hb
    rw [List.drop_of_length_le (by omega), List.flatMap_nil, List.append_nil]
    exact Ev.step (f := fun _ => some acc) (fun k => by rw [log_Put.l0, if_neg (by omega)]) (Ev.now _)
  | succ d ih =>
    intro i acc hi hb
    have hlt : i < G.length := by omega
    unfold partsG at hG
    have hm := mem_partsG (List.getElem_mem hlt)
    have hl := len_parts G[i]
    rw [List.drop_eq_getElem_cons hlt, List.flatMap_cons, ← List.append_assoc] at hb ⊢
    have hx := rdG G i hlt
    have hb' := hb
    rw [List.length_append, List.length_append] at hb'
    unfold batL at hb'
    rw [List.length_append] at hb'
    have hin := put_inner G G.length i G[i] (by omega) (by omega) (acc ++ batL G[i] ++ (G.drop (i + 1)).flatMap batL) G[i].length 0 (acc ++ numL G[i].length) (by omega) (by rw [List.drop_zero]; simp only [List.length_append]; omega) (by
      rw [List.drop_zero, ww i (by omega), List.append_assoc, show numL G[i].length ++ G[i].flatMap wrL = batL G[i] from rfl]
      exact ih (i + 1) (acc ++ batL G[i]) (by omega) hb)
    refine Ev.step (fun k => ?_) hin
    rw [log_Put.l0, if_pos (show (i : Int) < (G.length : Int) by omega), if_pos (show (0 : Int) ≤ (i : Int) by omega), if_pos (show (i : Int) < (G.length : Int) by omega), hx, putLen_eq _ (by omega), Option.bind_some, if_pos (by omega)]
    rfl
theorem put_ev (a : Nat) (G : List (List Wr)) (ha : a < 18446744073709551616) (hG : partsG G ≤ 32768) : Ev (fun k => log_Put.f k (a : Int) G) (putL a G) := by
  have hlen := put_len a G ha hG
  have hgl : G.length ≤ 32768 := by unfold partsG at hG; omega
  unfold putL at hlen ⊢
  have hb := hlen
  simp only [List.length_append] at hb
  have h := put_outer G hG G.length 0 (numL a ++ numL G.length) (by omega) (by rw [List.drop_zero]; simp only [List.length_append]; omega)
  rw [List.drop_zero, List.append_assoc] at h
  refine Ev.congr (fun k => ?_) h
  unfold log_Put.f
  rw [putUint_eq a ha, Option.bind_some, putLen_eq _ (by omega), Option.bind_some, if_pos (by omega)]
  rfl
/-! ### The document's record -/
theorem number_eq (n : Nat) (h : n < 18446744073709551616) : screeref2_Number.f (n : Int) = some (numL n) := by
  unfold screeref2_Number.f
  rw [if_pos ⟨by omega, by omega⟩]
  simp
theorem numLen_eq (n : Nat) (h : n < 18446744073709551616) : screeref2_Number.f (IntKind.u64.wrap (n : Int)) = some (numL n) := by rw [u64_nat h]; exact number_eq n h
theorem words_eq (s : ByteArray) (h : s.size ≤ 32768) : screeref2_Words.f s = some (txL s) := by
  unfold screeref2_Words.f
  rw [if_pos (by omega)]
  rfl
theorem ref_inner (G : List (List Wr)) (i : Nat) (l : List Wr) (hl : l.length ≤ 32768) (hp : parts l ≤ 32768) (R : List Int) (d : Nat) : ∀ (j : Nat) (acc : List Int), j + d = l.length → (acc ++ (l.drop j).flatMap wrL).length ≤ 1000000000 →
    Ev (fun k => screeref7_Put.l0 k G (acc ++ (l.drop j).flatMap wrL) (wrap64 ((i : Int) + 1))) R → Ev (fun k => screeref7_Put.l1 k G acc (i : Int) l (j : Int)) R := by
  induction d with
  | zero =>
    intro j acc hj hb h
    rw [List.drop_of_length_le (by omega), List.flatMap_nil, List.append_nil] at h
    exact Ev.step (fun k => by rw [screeref7_Put.l1, if_neg (by omega)]) h
  | succ d ih =>
    intro j acc hj hb h
    have hlt : j < l.length := by omega
    have hm := mem_parts (List.getElem_mem hlt)
    rw [List.drop_eq_getElem_cons hlt, List.flatMap_cons, ← List.append_assoc] at hb h
    have hx := rdT l j hlt
    have hb' := hb
    rw [List.length_append, List.length_append] at hb'
    refine Ev.step (fun k => ?_) (ih (j + 1) (acc ++ wrL l[j]) (by omega) hb h)
    rw [screeref7_Put.l1, if_pos (show (j : Int) < (l.length : Int) by omega), if_pos (show (0 : Int) ≤ (j : Int) by omega), hx, ww j (by omega)]
    by_cases hd : l[j].f1 = true
    · have e : wrL l[j] = 1 :: txL l[j].f0 := by unfold wrL; rw [if_pos hd]
      rw [e, List.length_cons] at hb'
      rw [if_pos hd, if_pos (show acc.length < 140737488355328 by omega), Option.bind_some, words_eq _ (by omega), Option.bind_some, if_pos (by rw [List.length_append]; simp; omega), List.append_assoc, e]
      rfl
    · have e : wrL l[j] = 0 :: (txL l[j].f0 ++ txL l[j].f2) := by unfold wrL; rw [if_neg hd]
      rw [e, List.length_cons, List.length_append] at hb'
      rw [if_neg hd, if_pos (show acc.length < 140737488355328 by omega), Option.bind_some, words_eq _ (by omega), Option.bind_some, if_pos (by rw [List.length_append]; simp; omega), Option.bind_some, words_eq _ (by omega), Option.bind_some, if_pos (by rw [List.length_append, List.length_append]; simp; omega), List.append_assoc, List.append_assoc, e]
      rfl
theorem ref_outer (G : List (List Wr)) (hG : partsG G ≤ 32768) (d : Nat) : ∀ (i : Nat) (acc : List Int), i + d = G.length → (acc ++ (G.drop i).flatMap batL).length ≤ 1000000000 →
    Ev (fun k => screeref7_Put.l0 k G acc (i : Int)) (acc ++ (G.drop i).flatMap batL) := by
  induction d with
  | zero =>
    intro i acc hi hb
    rw [List.drop_of_length_le (by omega), List.flatMap_nil, List.append_nil]
    exact Ev.step (f := fun _ => some acc) (fun k => by rw [screeref7_Put.l0, if_neg (by omega)]) (Ev.now _)
  | succ d ih =>
    intro i acc hi hb
    have hlt : i < G.length := by omega
    unfold partsG at hG
    have hm := mem_partsG (List.getElem_mem hlt)
    have hl := len_parts G[i]
    rw [List.drop_eq_getElem_cons hlt, List.flatMap_cons, ← List.append_assoc] at hb ⊢
    have hx := rdG G i hlt
    have hb' := hb
    rw [List.length_append, List.length_append] at hb'
    unfold batL at hb'
    rw [List.length_append] at hb'
    have hin := ref_inner G i G[i] (by omega) (by omega) (acc ++ batL G[i] ++ (G.drop (i + 1)).flatMap batL) G[i].length 0 (acc ++ numL G[i].length) (by omega) (by rw [List.drop_zero]; simp only [List.length_append]; omega) (by
      rw [List.drop_zero, ww i (by omega), List.append_assoc, show numL G[i].length ++ G[i].flatMap wrL = batL G[i] from rfl]
      exact ih (i + 1) (acc ++ batL G[i]) (by omega) hb)
    refine Ev.step (fun k => ?_) hin
    rw [screeref7_Put.l0, if_pos (show (i : Int) < (G.length : Int) by omega), if_pos (show (0 : Int) ≤ (i : Int) by omega), hx, numLen_eq _ (by omega), Option.bind_some, if_pos (by omega)]
    rfl
theorem ref_ev (a : Nat) (G : List (List Wr)) (ha : a < 18446744073709551616) (hG : partsG G ≤ 32768) : Ev (fun k => screeref7_Put.f k (a : Int) G) (putL a G) := by
  have hlen := put_len a G ha hG
  have hgl : G.length ≤ 32768 := by unfold partsG at hG; omega
  unfold putL at hlen ⊢
  have hb := hlen
  simp only [List.length_append] at hb
  have h := ref_outer G hG G.length 0 (numL a ++ numL G.length) (by omega) (by rw [List.drop_zero]; simp only [List.length_append]; omega)
  rw [List.drop_zero, List.append_assoc] at h
  refine Ev.congr (fun k => ?_) h
  unfold screeref7_Put.f
  rw [number_eq a ha, Option.bind_some, if_pos (by simp; omega), Option.bind_some, numLen_eq _ (by omega), Option.bind_some, if_pos (by simp; omega)]
  rfl
end Go.Proofs.Ytnamanalacjhnaa.Pt
