/- The count of a group's parts (this claim's own lemmas). -/
import Derived.Test.YtnamanalacjhnaaQPtx4
import Derived.Test.YtnamanalacjhnaaWk
namespace Go.Proofs.Ytnamanalacjhnaa.Sm
open Go.RowKit Go.Proofs.YtnamanalacjhnaaW.PrintWords Go.Proofs.Ytnamanalacjhnaa.Own Go.Proofs.Ytnamanalacjhnaa.Wk Go.Proofs.Ytnamanalacjhnaa.QPt
set_option linter.unusedVariables false
abbrev Wr := S64
abbrev kG : Kd (List Wr) := Kd.slice 64 k64
/-- A state of the count: so many parts more, or none. -/
def addC (s n : Int) : Int := if s ≥ 0 then s - n else s
def cntW : Int → List Wr → Int
  | s, [] => s
  | s, x :: l => if s ≥ 0 then cntW (addC (addC s (1 + (x.f0.size : Int))) (x.f2.size : Int)) l else s
def cntL : Int → List (List Wr) → Int
  | s, [] => s
  | s, l :: g => if s ≥ 0 then cntL (cntW s l) g else s
def cntG (s : Int) (g : List (List Wr)) : Int := cntL (addC s (g.length : Int)) g
/-- How many parts a list of writes, a group has. -/
def parts (l : List Wr) : Nat := (l.map fun x => 1 + x.f0.size + x.f2.size).sum
def partsG (g : List (List Wr)) : Nat := g.length + (g.map parts).sum
/-- Its texts are no greater than what can be read. -/
def Fit (l : List Wr) : Prop := ∀ x ∈ l, x.f0.size ≤ 140737488351232 ∧ x.f2.size ≤ 140737488351232
def FitG (g : List (List Wr)) : Prop := ∀ l ∈ g, Fit l
def In (s : Int) : Prop := -1000000000000000 ≤ s ∧ s ≤ 32768
theorem addC_in {s n : Int} (h : In s) (h0 : 0 ≤ n) (h1 : n ≤ 140737488355328) : In (addC s n) := by
  unfold In at *; unfold addC; split <;> omega
theorem wrap_in {a : Int} (h0 : -9223372036854775808 ≤ a) (h1 : a < 9223372036854775808) : wrap64 a = a := by unfold wrap64; omega
theorem add_eq {s n : Int} (h : In s) (h0 : 0 ≤ n) (h1 : n ≤ 140737488355328) : ∃ b, screeroom_Count_Add.f s n = some (b, addC s n) := by
  unfold screeroom_Count_Add.f addC
  unfold In at h
  split
  · rw [wrap_in (by omega) (by omega)]; exact ⟨_, rfl⟩
  · exact ⟨_, rfl⟩
theorem text_eq {s : Int} {x : ByteArray} (h : In s) (hx : x.size ≤ 140737488351232) : screeroom_Count_Text.f s x = some (addC s (1 + (x.size : Int))) := by
  unfold screeroom_Count_Text.f
  rw [wrap_in (by omega) (by omega)]
  obtain ⟨b, hb⟩ := add_eq h (n := 1 + (x.size : Int)) (by omega) (by omega)
  rw [hb]
  rfl
theorem cntW_in {l : List Wr} : ∀ {s : Int}, In s → Fit l → In (cntW s l) := by
  induction l with
  | nil => intro s h _; exact h
  | cons x l ih =>
    intro s h hf
    unfold cntW
    split
    · have hx := hf x (by simp)
      exact ih (addC_in (addC_in h (by omega) (by omega)) (by omega) (by omega)) (fun y hy => hf y (by simp [hy]))
    · exact h
theorem writes_ev (l : List Wr) (hl : l.length ≤ 140737488351232) (hf : Fit l) (d : Nat) : ∀ (i : Nat) (s : Int), i + d = l.length → In s → Ev (fun k => screeroom_Count_Writes.l0 k l (i : Int) s) (cntW s (l.drop i)) := by
  induction d with
  | zero =>
    intro i s hi hs
    refine Ev.step (f := fun k => screeroom_Count_Writes.j1 k l (i : Int) false s) (fun k => ?_) (Ev.step (f := fun _ => some s) (fun k => ?_) ?_)
    · rw [screeroom_Count_Writes.l0, if_neg (by omega)]
    · rw [screeroom_Count_Writes.j1, if_neg (by decide)]
    · rw [List.drop_of_length_le (by omega)]; exact Ev.now _
  | succ d ih =>
    intro i s hi hs
    have hlt : i < l.length := by omega
    have hx : (rd_T64 l (i : Int)) = l[i] := by simp [rd_T64, List.getD_eq_getElem?_getD, hlt]
    rw [List.drop_eq_getElem_cons hlt]
    unfold cntW
    by_cases h0 : s ≥ 0
    · rw [if_pos h0]
      have hm := hf l[i] (List.getElem_mem hlt)
      have hs1 := addC_in hs (n := 1 + (l[i].f0.size : Int)) (by omega) (by omega)
      have hs2 := addC_in hs1 (n := (l[i].f2.size : Int)) (by omega) (by omega)
      obtain ⟨b, hb⟩ := add_eq hs1 (n := (l[i].f2.size : Int)) (by omega) (by omega)
      refine Ev.step (f := fun k => screeroom_Count_Writes.j1 k l (i : Int) true s) (fun k => ?_) (Ev.step (fun k => ?_) (ih (i + 1) _ (by omega) hs2))
      · rw [screeroom_Count_Writes.l0, if_pos (by omega)]
        unfold screeroom_Count_Ok.f
        rw [decide_eq_true h0]
        rfl
      · rw [screeroom_Count_Writes.j1, if_pos rfl, if_pos (by omega), if_pos (by omega), hx, text_eq hs hm.1, Option.bind_some, hb, Option.bind_some, wrap_in (by omega) (by omega)]
        rfl
    · rw [if_neg h0]
      refine Ev.step (f := fun k => screeroom_Count_Writes.j1 k l (i : Int) false s) (fun k => ?_) (Ev.step (f := fun _ => some s) (fun k => ?_) (Ev.now _))
      · rw [screeroom_Count_Writes.l0, if_pos (by omega)]
        unfold screeroom_Count_Ok.f
        rw [decide_eq_false h0]
        rfl
      · rw [screeroom_Count_Writes.j1, if_neg (by decide)]
theorem writes_eq {l : List Wr} {s : Int} (hl : l.length ≤ 140737488351232) (hf : Fit l) (hs : In s) : ∃ k, screeroom_Count_Writes.f k s l = some (cntW s l) := by
  have h := (writes_ev l hl hf l.length 0 s (by omega) hs).rounds
  exact h
theorem cntW_parts {l : List Wr} : ∀ {s : Int}, 0 ≤ cntW s l → 0 ≤ s ∧ (parts l : Int) + cntW s l = s := by
  induction l with
  | nil => intro s h; exact ⟨h, by simp [parts, cntW]⟩
  | cons x l ih =>
    intro s h
    unfold cntW at h ⊢
    by_cases h0 : s ≥ 0
    · rw [if_pos h0] at h ⊢
      obtain ⟨h1, h2⟩ := ih h
      have hp : parts (x :: l) = 1 + x.f0.size + x.f2.size + parts l := by simp [parts]
      have h3 : 0 ≤ addC s (1 + (x.f0.size : Int)) := by
        rcases Int.lt_or_le (addC s (1 + (x.f0.size : Int))) 0 with hlt | hge
        · have : addC (addC s (1 + (x.f0.size : Int))) (x.f2.size : Int) = addC s (1 + (x.f0.size : Int)) := by rw [addC, if_neg (by omega)]
          omega
        · exact hge
      have e1 : addC s (1 + (x.f0.size : Int)) = s - (1 + (x.f0.size : Int)) := by rw [addC, if_pos h0]
      have e2 : addC (addC s (1 + (x.f0.size : Int))) (x.f2.size : Int) = addC s (1 + (x.f0.size : Int)) - (x.f2.size : Int) := by rw [addC, if_pos h3]
      exact ⟨h0, by rw [hp]; omega⟩
    · rw [if_neg h0] at h
      omega
theorem cntL_parts {g : List (List Wr)} : ∀ {s : Int}, 0 ≤ cntL s g → 0 ≤ s ∧ ((g.map parts).sum : Int) ≤ s := by
  induction g with
  | nil => intro s h; exact ⟨h, by simpa [cntL] using h⟩
  | cons l g ih =>
    intro s h
    unfold cntL at h
    by_cases h0 : s ≥ 0
    · rw [if_pos h0] at h
      obtain ⟨h1, h2⟩ := ih h
      obtain ⟨h3, h4⟩ := cntW_parts h1
      refine ⟨h0, ?_⟩
      rw [List.map_cons, List.sum_cons]
      omega
    · rw [if_neg h0] at h
      omega
/-- What the count lets by is small. -/
theorem cntG_parts {g : List (List Wr)} (h : 0 ≤ cntG 32768 g) : partsG g ≤ 32768 := by
  unfold cntG at h
  obtain ⟨h1, h2⟩ := cntL_parts h
  have e : addC 32768 (g.length : Int) = 32768 - (g.length : Int) := by rw [addC, if_pos (by decide)]
  unfold partsG
  omega
theorem heapWr : Kd.Heap k64 := ⟨fun _ h => by rw [k64_open h]; exact k64_mk _ _⟩
theorem below_foot {w0 W W' : World} {g : Nat} (hb : Below w0.heap.size w0 W) (hg : w0.heap.size ≤ g) (hk : KeepBut W W' g none) : ∀ k, k < w0.heap.size → W'.heap[k]? = w0.heap[k]? := Kd.keep_heap hb hk hg
set_option maxHeartbeats 2000000 in
set_option maxRecDepth 100000 in
theorem groups_calls {w0 W : World} {g : Nat} {s : Int} {A : Option Addr} {n c : Nat} {G : List (List Wr)} (hI : IsS79 w0 W g s) (hB : Below w0.heap.size w0 W) (h : Rd kG w0 A n c G) (hs : In s) (hG : G.length ≤ 140737488351232) (hl : ∀ l ∈ G, l.length ≤ 140737488351232) (hf : FitG G) :
    Calls Try.prog 18 #[.pointer (some ⟨g, 0, none⟩), .slice A n c] W fun e w' => e = .returned (.tuple #[]) ∧ IsS79 w0 w' g (cntG s G) ∧ Below w0.heap.size w0 w' ∧ KeepBut W w' g none := by
  have hm := h.1
  subst hm
  have HR := Aside0.mk h
  have HI := Aside0.mk hI
  have HB := Aside0.mk hB
  have HF := Aside0.mk hf
  have HL := Aside0.mk hl
  obtain ⟨r, hr⟩ : ∃ r, r = cntG s G := ⟨_, rfl⟩
  rw [← hr]
  obtain ⟨s1, hs1⟩ : ∃ s1, s1 = addC s (G.length : Int) := ⟨_, rfl⟩
  have HS1 : Aside0 (In s1) := ⟨by rw [hs1]; exact addC_in hs (by omega) (by omega)⟩
  have HR1 : Aside0 (cntL s1 (G.drop 0) = r) := ⟨by rw [hr, hs1]; rfl⟩
  obtain ⟨b, hb⟩ := add_eq hs (n := (G.length : Int)) (by omega) (by omega)
  rw [← hs1] at hb
  have HA := Aside0.mk hb
  clear h hI hB hf hl hr hs1 hb hs
  go_enter Try.func18, Try.ntmps18
  go_wp2_with fail
  refine (screeroom_Count_Add.calls g s (G.length : Int) b s1 w0 W HI.out HB.out HA.out).mono ?_
  rintro e w1 ⟨rfl, hI1, hB1, hK1⟩
  have HI1 := Aside0.mk hI1
  have HB1 := Aside0.mk hB1
  have HK1 := Aside0.mk hK1
  clear hI1 hB1 hK1 HI HB HA
  go_wp2_with fail
  go_loopw [4] (fun vi wr => ∃ (i : Nat) (x : Int), vi = .int .i64 (i : Int) ∧ i ≤ G.length ∧ Aside0 (In x) ∧ Aside0 (cntL x (G.drop i) = r) ∧ Aside0 (IsS79 w0 wr g x) ∧ Aside0 (Below w0.heap.size w0 wr) ∧ Aside0 (KeepBut W wr g none)) (fun vi _ => G.length - (intOf vi).toNat)
  case atStart => exact ⟨0, s1, rfl, Nat.zero_le _, HS1, HR1, HI1, HB1, HK1⟩
  case round =>
    clear HS1 HR1 HI1 HB1 HK1
    obtain ⟨i, x, rfl, hi, HX, HQ, HI, HB, HK⟩ := hrel
    by_cases hlt : i < G.length
    · have hq := HQ.out
      have hgi : rd_L3 G (i : Int) = G[i] := by simp [rd_L3, List.getD_eq_getElem?_getD, hlt]
      rw [List.drop_eq_getElem_cons hlt, ← hgi] at hq
      unfold cntL at hq
      have hml : (rd_L3 G (i : Int)).length ≤ 140737488351232 := by rw [hgi]; exact HL.out _ (List.getElem_mem hlt)
      have hmf : Fit (rd_L3 G (i : Int)) := by rw [hgi]; exact HF.out _ (List.getElem_mem hlt)
      by_cases h0 : x ≥ 0
      · rw [if_pos h0] at hq
        have HOk : Aside0 (screeroom_Count_Ok.f x = some (true, x)) := ⟨by unfold screeroom_Count_Ok.f; rw [decide_eq_true h0]⟩
        obtain ⟨k, hk⟩ := writes_eq hml hmf HX.out
        have HW := Aside0.mk hk
        have HQ2 := Aside0.mk hq
        have HX2 := Aside0.mk (cntW_in HX.out hmf)
        obtain ⟨ad, A0, c0, hA, hcell, hc0, hC⟩ := at_L3 HR.out.2.2 (i : Int) (by omega) (by omega)
        subst hA
        rw [Int.toNat_natCast] at hcell
        have HC := Aside0.mk hcell
        have HCC := Aside0.mk hC
        clear hq hgi hml hmf hk hcell hC HQ
        go_wp2_with (first
          | (go_at_call 19; refine (screeroom_Count_Ok.calls g x true x w0 _ HI.out HB.out HOk.out).mono ?_; rintro e w2 ⟨rfl, hI2, hB2, hK2⟩; (have hcell2 := (hB2.cell (p := ad.add i) (World.block_lt_of_cell? w0 _ HC.out)).trans HC.out); (have HI2 := Aside0.mk hI2); (have HB2 := Aside0.mk hB2); (have HK2 := Aside0.mk (HK.out.trans hK2 (.inl rfl))); clear hI2 hB2 hK2)
          | (go_at_call 45; refine (screeroom_Count_Writes.calls k g x A0 c0 (rd_L3 G (i : Int)) _ w0 _ HI2.out HB2.out (Kd.C_foot_came heapWr HCC.out HB2.out HI2.out.2) hc0 HW.out).mono ?_; rintro e w3 ⟨rfl, hI3, hB3, hK3⟩; (have HI3 := Aside0.mk hI3); (have HB3 := Aside0.mk hB3); (have HK3 := Aside0.mk (HK2.out.trans hK3 (.inl rfl))); clear hI3 hB3 hK3 hcell2))
        go_roundw
        case rel => exact ⟨i + 1, _, by go_num, by omega, HX2, HQ2, HI3, HB3, HK3⟩
        case measure => simp [intOf]; omega
      · rw [if_neg h0] at hq
        have HOk : Aside0 (screeroom_Count_Ok.f x = some (false, x)) := ⟨by unfold screeroom_Count_Ok.f; rw [decide_eq_false h0]⟩
        have HE : Aside0 (x = r) := ⟨hq⟩
        clear hq hgi hml hmf
        go_wp2_with (first | (go_at_call 19; refine (screeroom_Count_Ok.calls g x false x w0 _ HI.out HB.out HOk.out).mono ?_; rintro e w2 ⟨rfl, hI2, hB2, hK2⟩; (have HI2 := Aside0.mk hI2); (have HB2 := Aside0.mk hB2); (have HK2 := Aside0.mk (HK.out.trans hK2 (.inl rfl))); clear hI2 hB2 hK2))
        go_end0
        exact ⟨rfl, HE.out ▸ HI2.out, HB2.out, HK2.out⟩
    · have HE : Aside0 (x = r) := ⟨by have := HQ.out; rw [List.drop_of_length_le (by omega)] at this; exact this⟩
      go_wp2_with fail
      go_end0
      exact ⟨rfl, HE.out ▸ HI.out, HB.out, HK.out⟩
set_option maxHeartbeats 1000000 in
theorem small_calls {w : World} {A : Option Addr} {n c : Nat} {G : List (List Wr)} (h : Rd kG w A n c G) (hG : G.length ≤ 140737488351232) (hl : ∀ l ∈ G, l.length ≤ 140737488351232) (hf : FitG G) :
    Calls Try.prog 6 #[.slice A n c] w fun e w' => e = .returned (.bool (decide (0 ≤ cntG 32768 G))) ∧ Below w.heap.size w w' := by
  have HR := Aside0.mk h
  have HF := Aside0.mk hf
  have HL := Aside0.mk hl
  obtain ⟨r, hr⟩ : ∃ r, cntG 32768 G = r := ⟨_, rfl⟩
  rw [hr]
  have HQ := Aside0.mk hr
  have HOk : Aside0 (screeroom_Count_Ok.f r = some (decide (0 ≤ r), r)) := ⟨rfl⟩
  obtain ⟨b, hb⟩ : ∃ b, decide (0 ≤ r) = b := ⟨_, rfl⟩
  rw [hb] at HOk ⊢
  clear h hf hl hr hb
  go_enter Try.func6, Try.ntmps6
  go_wp2_with fail
  refine (screeroom_Many.calls 32768 32768 w w (Below.refl _ _) rfl).mono ?_
  rintro e w1 ⟨g, rfl, hI1, hB1, -⟩
  have HI1 := Aside0.mk hI1
  have HB1 := Aside0.mk hB1
  clear hI1 hB1
  go_wp2_with fail
  refine (groups_calls HI1.out HB1.out HR.out ⟨by decide, by decide⟩ hG HL.out HF.out).mono ?_
  rintro e w2 ⟨rfl, hI2, hB2, -⟩
  rw [HQ.out] at hI2
  have HI2 := Aside0.mk hI2
  have HB2 := Aside0.mk hB2
  clear hI2 hB2 HI1 HB1
  go_wp2_with fail
  refine (screeroom_Count_Ok.calls g r b r w w2 HI2.out HB2.out HOk.out).mono ?_
  rintro e w3 ⟨rfl, -, hB3, -⟩
  have HB3 := Aside0.mk hB3
  clear hB3
  go_wp2_with fail
  go_ret
  exact ⟨rfl, HB3.out⟩
end Go.Proofs.Ytnamanalacjhnaa.Sm
