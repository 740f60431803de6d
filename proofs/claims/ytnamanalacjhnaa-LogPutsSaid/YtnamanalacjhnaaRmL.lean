/- The room's copy of a group (this claim's own lemmas). -/
import Derived.Test.YtnamanalacjhnaaRmW
namespace Go.Proofs.Ytnamanalacjhnaa.RmG
open Go.RowKit Go.Proofs.YtnamanalacjhnaaW.PrintWords Go.Proofs.Ytnamanalacjhnaa.Own Go.Proofs.Ytnamanalacjhnaa.Wk
set_option linter.unusedVariables false
abbrev kG : Kd (List (List Wr)) := Kd.slice 62 kWs
def marksG : List (List Wr) := (List.range 40).map fun k => [markW k]
/-- The room behind a group that it lent. -/
def RoomG (W : World) (g : Nat) (G : List (List Wr)) : Prop :=
  ∃ A1 c1 A2 c2 A3 c3 A4 c4, W.heap[g]? = some (.cells (roomCells (.slice A1 G.length c1) (.slice A2 G.length c2) (.slice A3 1 c3) (.slice A4 1 c4)) 42 (0, 0)) ∧
    Kd.C kWs W A1 G.length (G.map (· ++ marksW 4)) ∧ Kd.C (Kd.int .i64) W A2 G.length (G.map fun l => (l.length : Int)) ∧ Kd.C kG W A3 1 [G ++ marksG] ∧ Kd.C (Kd.int .i64) W A4 1 [(G.length : Int)]
theorem RoomG.below {W W' : World} {g : Nat} {G : List (List Wr)} (h : RoomG W g G) (hb : Below W.heap.size W W') : RoomG W' g G := by
  obtain ⟨A1, c1, A2, c2, A3, c3, A4, c4, h0, h1, h2, h3, h4⟩ := h
  exact ⟨A1, c1, A2, c2, A3, c3, A4, c4, (hb.block _ (blk_lt h0)).trans h0, Kd.C_below h1 hb, Kd.C_below h2 hb, Kd.C_below h3 hb, Kd.C_below h4 hb⟩
theorem reps_map {α β : Type} {R : β → List Value → Prop} (f : α → Value) (p : α → β) (es : List α) (h : ∀ e ∈ es, R (p e) [f e]) : Reps R 1 (es.map p) (es.map f) := by
  refine ⟨by simp, fun j q hj => ?_⟩
  obtain ⟨hl, hq⟩ := List.getElem?_eq_some_iff.1 hj
  rw [List.length_map] at hl
  have hl' : j < (es.map f).length := by rw [List.length_map]; exact hl
  rw [Nat.mul_one, List.drop_eq_getElem_cons hl']
  simp only [List.getElem_map] at hq ⊢
  subst hq
  exact h _ (List.getElem_mem hl)
theorem reps_two {β : Type} {R : β → List Value → Prop} {p q : List β} {a b : List Value} (h : Reps R 1 p a) (k : Reps R 1 q b) : Reps R 1 (p ++ q) (a ++ b) := by
  have h1 := h.1
  have k1 := k.1
  rw [Nat.mul_one] at h1 k1
  refine ⟨by simp [h1, k1], fun j x hj => ?_⟩
  rw [Nat.mul_one]
  rcases Nat.lt_or_ge j p.length with hlt | hge
  · rw [List.getElem?_append_left hlt] at hj
    have := h.2 j x hj
    rw [Nat.mul_one] at this
    rw [List.drop_append_of_le_length (by omega), List.take_append_of_le_length (by rw [List.length_drop]; omega)]
    exact this
  · rw [List.getElem?_append_right hge] at hj
    have := k.2 (j - p.length) x hj
    rw [Nat.mul_one] at this
    rw [List.drop_append, List.drop_of_length_le (by omega), List.nil_append, h1]
    exact this
theorem K_of_R {W : World} {base : Nat} {A : Option Addr} {n c m : Nat} {l : List Wr} (h : kW.R 64 W base (fun _ => True) (.slice A n c) l) (hm : m ≤ l.length) (c' : Nat) (hc : m ≤ c') : kWs.K W (l.take m) [.slice A m c'] := by
  obtain ⟨A', c1, e, h1, h2⟩ := Kd.R_reads h
  injection e with i1 i2 i3
  subst i1
  have h3 := Kd.C_take h2 hm
  have hl : (l.take m).length = m := by rw [List.length_take]; omega
  exact ⟨A, c', by rw [hl], by omega, by rw [hl] at h3 ⊢; exact h3⟩
theorem K_lent {W : World} {base : Nat} {e : Ent} (h : EntOk W base e) : kWs.K W e.l [lent e] := by
  have := K_of_R (m := e.l.length) h (by simp) (e.l.length + 4) (by omega)
  rw [List.take_left'] at this
  · exact this
  · rfl
theorem K_full {W : World} {base : Nat} {e : Ent} (h : EntOk W base e) : kWs.K W (e.l ++ marksW 4) [full e] := by
  have h' := h
  obtain ⟨A', c1, ev, h1, h2⟩ := Kd.R_reads h
  unfold full at ev ⊢
  injection ev with i1 i2 i3
  have hl : (e.l ++ marksW 4).length = e.l.length + 4 := by simp [marksW]
  exact ⟨A', c1, by rw [hl, ← i1, ← i3], h1, h2⟩
def mv (b : Nat) : Value := .slice (some ⟨b, 0, none⟩) 1 1
def MarkOk (W : World) (base b k : Nat) : Prop := kW.R 64 W base (fun _ => True) (mv b) [markW k]
theorem mark_lit (W : World) (base k : Nat) (hb : base ≤ W.heap.size) : MarkOk (W.alloc (.cells #[.string (wordS k), .bool false, .string (⟨#[]⟩ : ByteArray)] 64)) base W.heap.size k := by
  refine ⟨fun _ _ => trivial, [.string (wordS k), .bool false, .string (⟨#[]⟩ : ByteArray)], ?_, ?_⟩
  · exact World.ownsRow_lit (base := base) (e := 64) (size := 3) W #[.string (wordS k), .bool false, .string (⟨#[]⟩ : ByteArray)] 1 hb (by decide) rfl
  · refine ⟨rfl, fun j p hj => ?_⟩
    match j, hj with
    | 0, hj =>
      obtain rfl : markW k = p := by simpa using hj
      exact QPt.k64_mkM _ _ _ (markW k)
    | j + 1, hj => simp at hj
/-- What a group's copy leaves. -/
def GroupPost (w0 : World) (g : Nat) (G : List (List Wr)) (e : Ending) (w' : World) : Prop :=
  ∃ A, e = .returned (.slice A G.length (G.length + 40)) ∧ RoomG w' g G ∧ Kd.C kWs w' A G.length G ∧ Below w0.heap.size w0 w'
theorem group_done {w0 wr w4 w5 : World} {base : Nat} {F : Nat → Prop} {g : Nat} {es : List Ent} {ms : List Nat} {G : List (List Wr)} {A : Option Addr} {c : Nat} {v4 v5 : Value}
    (hR : RoomB wr base F g es) (hB : Below base w0 wr) (hbs : base = w0.heap.size) (he : es.map (·.l) = G) (ho : wr.ownsRow base 62 1 (.slice A (G.length + 40) c) (G.length + 40) (es.map lent ++ ms.map mv)) (hms : ms.length = 40) (hmk : ∀ j b, ms[j]? = some b → MarkOk wr base b j) (hG : G.length ≤ 100000)
    (o4 : w4.ownsRow base 24 1 v4 1 [.slice A (G.length + 40) c]) (g4 : wr.grownBy w4 none) (o5 : w5.ownsRow base 3 1 v5 1 [.int .i64 (G.length : Int)]) (g5 : (w4.setCell ⟨g, 22, none⟩ v4).grownBy w5 none) :
    GroupPost w0 g G (.returned (.slice A G.length (G.length + 40))) (w5.setCell ⟨g, 23, none⟩ v5) := by
  subst hbs
  obtain ⟨va, vb, hg, hFg, hFb, hFa, hFv, oa, ob, hes⟩ := hR
  obtain ⟨t1, t2, t3, t4, t5⟩ := two_rows (va := .slice none 0 0) (vb := .slice none 0 0) (e1 := 24) (e2 := 3) (n1 := 0) (n2 := 0) (xa := []) (xb := []) (j := 23) hg (hFb g hFg) (own_nil _ _ _ _) (own_nil _ _ _ _) (by decide) (by decide) (by decide) o4 g4 o5 g5
  have keep : ∀ k, k < wr.heap.size → k ≠ g → (w5.setCell ⟨g, 23, none⟩ v5).heap[k]? = wr.heap[k]? := fun k hk hkg => t4 k hk hkg (by simp [Value.ownBlock]) (by simp [Value.ownBlock])
  have mv' : ∀ (k : Nat) (cs : Array Value), wr.heap[k]? = some (.cells cs 64 (0, 0)) → (w5.setCell ⟨g, 23, none⟩ v5).heap[k]? = wr.heap[k]? := fun k cs hk => keep k (blk_lt hk) (blk_ne hk hg (by decide))
  have hlen : es.length = G.length := by rw [← he, List.length_map]
  have oa' := own_move oa (fun k hk => keep k (own_lt oa k hk) (fun e => own_ne oa hg (by decide) (by rw [hk, e])))
  have ob' := own_move ob (fun k hk => keep k (own_lt ob k hk) (fun e => own_ne ob hg (by decide) (by rw [hk, e])))
  have ho' := own_move ho (fun k hk => keep k (own_lt ho k hk) (fun e => own_ne ho hg (by decide) (by rw [hk, e])))
  have hes' : ∀ e ∈ es, EntOk (w5.setCell ⟨g, 23, none⟩ v5) w0.heap.size e := fun e h => typed_move (hes e h) mv'
  have hmk' : ∀ j b, ms[j]? = some b → MarkOk (w5.setCell ⟨g, 23, none⟩ v5) w0.heap.size b j := fun j b h => typed_move (hmk j b h) mv'
  generalize hW : w5.setCell ⟨g, 23, none⟩ v5 = W' at t1 t2 t3 t4 t5 keep mv' oa' ob' ho' hes' hmk' ⊢
  have hmap : marksG = (List.range 40).map (fun k => [markW k]) := rfl
  have hmr : Reps (kWs.K W') 1 marksG (ms.map mv) := by
    refine ⟨by simp [marksG, hms], fun j q hj => ?_⟩
    obtain ⟨hl, hq⟩ := List.getElem?_eq_some_iff.1 hj
    have hl40 : j < 40 := by simpa [marksG] using hl
    have hl' : j < (ms.map mv).length := by rw [List.length_map, hms]; exact hl40
    rw [Nat.mul_one, List.drop_eq_getElem_cons hl']
    simp only [List.getElem_map]
    have hj' : ms[j]? = some (ms[j]'(by omega)) := List.getElem?_eq_getElem (by omega)
    have h3 := K_of_R (m := 1) (hmk' j _ hj') (by simp) 1 (by omega)
    have hqq : q = [markW j] := by rw [← hq]; simp [marksG]
    rw [hqq]
    exact h3
  have hrep : Reps (kWs.K W') 1 (G ++ marksG) (es.map lent ++ ms.map mv) := reps_two (by rw [← he]; exact reps_map lent (fun e => e.l) es (fun e h => K_lent (hes' e h))) hmr
  obtain ⟨Af, cf, ef, hCf⟩ := own_reads_row ho' hrep (by simp [marksG])
  injection ef with i1 i2 i3
  subst i1
  obtain ⟨A1, c1, e1, hC1⟩ := own_reads_row oa' (reps_map full (fun e => e.l ++ marksW 4) es (fun e h => K_full (hes' e h))) (by simp)
  obtain ⟨A2, c2, e2, hC2⟩ := own_reads_row (R := (Kd.int .i64).K W') ob' (reps_map (R := (Kd.int .i64).K W') num (fun e => (e.l.length : Int)) es (fun e h => rfl)) (by simp)
  have hlG : (G ++ marksG).length = G.length + 40 := by simp [marksG]
  have hcap : G.length + 40 ≤ c := by
    obtain ⟨q, cp, k1, k2, k3⟩ := ho'.form (by omega)
    rcases ho'.2 with ⟨k4, _⟩ | ⟨q', cp', cur, k4, k5, k6, k7, _⟩
    · cases k4
    · injection k4 with _ _ j3
      omega
  have hK3 : kG.K W' (G ++ marksG) [.slice A (G.length + 40) c] := ⟨A, c, by rw [hlG], by omega, by rw [hlG]; exact hCf⟩
  obtain ⟨A3, c3, e3, hC3⟩ := own_reads_row t2 (ps := [G ++ marksG]) (R := kG.K W') ⟨by simp, fun j p hj => by
    match j, hj with
    | 0, hj =>
      obtain rfl : G ++ marksG = p := by simpa using hj
      exact hK3
    | j + 1, hj => simp at hj⟩ rfl
  obtain ⟨A4, c4, e4, hC4⟩ := own_reads_row t3 (ps := [(G.length : Int)]) (R := (Kd.int .i64).K W') ⟨by simp, fun j p hj => by
    match j, hj with
    | 0, hj =>
      obtain rfl : (G.length : Int) = p := by simpa using hj
      rfl
    | j + 1, hj => simp at hj⟩ rfl
  subst e1 e2 e3 e4
  rw [hlen] at t1 hC1 hC2
  have hm1 : es.map (fun e => e.l ++ marksW 4) = G.map (· ++ marksW 4) := by rw [← he, List.map_map]; rfl
  have hm2 : es.map (fun e => (e.l.length : Int)) = G.map (fun l => (l.length : Int)) := by rw [← he, List.map_map]; rfl
  rw [hm1] at hC1
  rw [hm2] at hC2
  refine ⟨A, rfl, ⟨A1, c1, A2, c2, A3, c3, A4, c4, by rw [t1]; rfl, hC1, hC2, hC3, hC4⟩, ?_, hB.trans t5⟩
  have hCf' : Kd.C kWs W' A (G ++ marksG).length (G ++ marksG) := by rw [hlG]; exact hCf
  have hT := Kd.C_take hCf' (show G.length ≤ (G ++ marksG).length by omega)
  rw [List.take_left' rfl] at hT
  exact hT
theorem word_callsR (k : Nat) (w : World) (hk : k ≤ 9223372036854775807) : Calls Try.prog 47 #[.int .i64 (k : Int)] w fun e w' => e = .returned (.string (wordS k)) ∧ w = w' := (word_calls k w hk).mono fun _ _ h => ⟨h.1, h.2.symm⟩
theorem mark_step {W W1 W2 : World} {base n : Nat} {ms : List Nat} {v : Value} {xs : List Value} (hm : ∀ j b, ms[j]? = some b → MarkOk W base b j) (hb : Below W.heap.size W W1) (hl : MarkOk W1 base W.heap.size ms.length) (ho : W1.ownsRow base 62 1 v n xs) (hg : W1.grownBy W2 v.ownBlock) :
    ∀ j b, (ms ++ [W.heap.size])[j]? = some b → MarkOk W2 base b j := by
  intro j b hj
  have mv' : ∀ (k : Nat) (cs : Array Value), W1.heap[k]? = some (.cells cs 64 (0, 0)) → W2.heap[k]? = W1.heap[k]? := fun k cs hk => hg.block k (blk_lt hk) (own_ne ho hk (by decide))
  refine typed_move ?_ mv'
  rcases Nat.lt_trichotomy j ms.length with h | h | h
  · rw [List.getElem?_append_left h] at hj
    exact Kd.R_below (hm j b hj) hb
  · subst h
    obtain rfl : W.heap.size = b := by simpa using hj
    exact hl
  · rw [List.getElem?_append_right (by omega), List.getElem?_eq_none (by simp; omega)] at hj
    cases hj
set_option maxHeartbeats 2000000 in
set_option maxRecDepth 100000 in
theorem layGroups_calls (w0 w : World) (A0 : Option Addr) (c0 : Nat) (G : List (List Wr)) (F : Nat → Prop) (g : Nat) (hR : RoomB w w0.heap.size F g []) (hB : Below w0.heap.size w0 w)
    (hr0 : Kd.C kWs w0 A0 G.length G) (hc0 : G.length ≤ c0) (hG : G.length ≤ 100000) (hl : ∀ l ∈ G, l.length ≤ 100000) :
    Calls Try.prog 20 #[.pointer (some ⟨g, 0, none⟩), .slice A0 G.length c0, .int .i64 40] w (GroupPost w0 g G) := by
  have HR0 := Aside0.mk hr0
  have HR := Aside0.mk hR
  have HL := Aside0.mk hl
  have HB := Aside0.mk hB
  have HS : Aside0 (w0.heap.size ≤ w.heap.size) := ⟨hB.size⟩
  obtain ⟨base, hbase⟩ : ∃ base, w0.heap.size = base := ⟨_, rfl⟩
  have HBS := Aside0.mk hbase
  rw [hbase] at HR HB HS
  clear hr0 hR hl hB hbase
  go_enter Try.func20, Try.ntmps20
  go_wp2_with fail
  go_loopw [7, 8] (fun v i wr => ∃ (es : List Ent) (F : Nat → Prop), i = .int .i64 (es.length : Int) ∧ es.length ≤ G.length ∧ Aside0 (es.map (·.l) = G.take es.length) ∧ Aside0 (RoomB wr base F g es) ∧ Aside0 (wr.ownsRow base 62 1 v es.length (es.map lent)) ∧ Aside0 (∀ k, v.ownBlock = some k → ¬ F k) ∧ Aside0 (Below base w0 wr)) (fun _ i _ => G.length - (intOf i).toNat)
  case atStart =>
    have hbl : Below w.heap.size w (w.alloc (.cells #[] 62)) := below_alloc (Below.refl _ _) _
    refine ⟨[], fun k => F k ∧ k < w.heap.size, rfl, Nat.zero_le _, ⟨rfl⟩, ⟨(HR.out.bound).below hbl⟩, ⟨by simpa using World.ownsRow_lit (base := base) (e := 62) (size := 1) w #[] 0 HS.out (by decide) rfl⟩, ⟨fun k hk => ?_⟩, ⟨HB.out.alloc HS.out _⟩⟩
    have : w.heap.size = k := by simpa [Value.ownBlock] using hk
    rintro ⟨_, h⟩
    omega
  case round =>
    clear HB HR HS
    obtain ⟨es, F1, rfl, hes, HE, HR, HO, HF, HB⟩ := hrel
    by_cases hlt : es.length < G.length
    · obtain ⟨i, hi⟩ : ∃ i, i = es.length := ⟨_, rfl⟩
      obtain ⟨ad, A1, c1, hA, hcell0, hc1, hC1⟩ := QPt.at_L3 HR0.out (es.length : Int) (by omega) (by omega)
      subst hA
      have hcell : wr.cell? (ad.add es.length) = some (.slice A1 (QPt.rd_L3 G (es.length : Int)).length c1) := by
        have hb' : Below w0.heap.size w0 wr := HBS.out ▸ HB.out
        rw [Int.toNat_natCast] at hcell0
        exact pw_cell_below hb' hcell0
      have hrd : QPt.rd_L3 G (es.length : Int) = G[es.length] := by simp [QPt.rd_L3, List.getD_eq_getElem?_getD, hlt]
      obtain ⟨l, hl⟩ : ∃ l, l = QPt.rd_L3 G (es.length : Int) := ⟨_, rfl⟩
      rw [← hl] at hcell hc1 hC1 hrd
      have hll : l.length ≤ 100000 := by rw [hrd]; exact HL.out _ (List.getElem_mem hlt)
      have HC1 := Aside0.mk (Kd.C_below hC1 (HBS.out ▸ HB.out))
      have HRD := Aside0.mk hrd
      clear hC1 hcell0 hrd hl hi
      go_wp2_with fail
      refine (layWrites_calls A1 c1 l _ base F1 g es HR.out (by omega) HC1.out hc1 hll).mono ?_
      rintro e w2 ⟨b, cap, rfl, hbw, hR2, hB2, hsame⟩
      have hR2' := hR2.bound
      have HO2 := Aside0.mk (own_move HO.out (fun k hk => hsame k (own_lt HO.out k hk) (HF.out k hk)))
      have HN2 : Aside0 (∀ k, u7.ownBlock = some k → ¬ ((F1 k ∨ wr.heap.size ≤ k ∧ k ≠ b) ∧ k < w2.heap.size)) := ⟨fun k hk hF => by
        have h1 := own_lt HO.out k hk
        have h2 := HF.out k hk
        rcases hF.1 with h | ⟨h, _⟩
        · exact h2 h
        · omega⟩
      have HR2 := Aside0.mk hR2'
      have HB2 := Aside0.mk (HB.out.trans hB2)
      have HS2 : Aside0 (base ≤ w2.heap.size) := ⟨by have := HB2.out.size; have := HBS.out; omega⟩
      clear hR2 hR2' hsame hbw hB2 HB HO HF HR HC1 hcell
      go_wp2_with (first
        | ((with_reducible refine gate_builtin (b := .append) (xs := #[.tmp 17, .tmp 24]) rfl ?_); at_builtin; go_must (refine print_append_cells (w0 := w0) base rfl (.tmp 17) (.tmp 24) 24 62 (.slice none 0 0) 1 24 rfl Try.underlying24 info_ws rfl (by decide) (by decide) u7 es.length (es.map lent) [.slice (some ⟨b, 0, none⟩) l.length (l.length + 4)] rfl rfl rfl (by simp [Value.oneCell']) HO2.out HB2.out HS2.out (by omega) ?_); intro v4 w4 o4 b4 g4 a4; (have HR4 := Aside0.mk (HR2.out.grown HO2.out g4 HN2.out)); (have HN4 : Aside0 (∀ k, v4.ownBlock = some k → ¬ ((F1 k ∨ wr.heap.size ≤ k ∧ k ≠ b) ∧ k < w2.heap.size)) := ⟨fun k hk => by (rcases a4 with h | ⟨q, h, hq⟩); (exact HN2.out k (h ▸ hk)); (rw [h] at hk; (obtain rfl := Option.some.inj hk); omega)⟩); (have O4 := Aside0.mk o4); (have B4 := Aside0.mk b4); clear o4 b4 g4 a4 HR2 HO2 HN2 HB2))
      go_roundw
      case rel =>
        refine ⟨es ++ [⟨b, cap, l⟩], _, by first | (simp; done) | go_num | (simp; go_num), by simp; omega, ⟨?_⟩, HR4, ⟨?_⟩, HN4, B4⟩
        · rw [List.map_append, HE.out, List.length_append, List.length_singleton, List.take_succ_eq_append_getElem hlt, ← HRD.out]
          rfl
        · have := O4.out
          simpa [lent] using this
      case measure => simp [intOf]; omega
    · have heq : es.length = G.length := by omega
      have HE' : Aside0 (es.map (·.l) = G) := ⟨by rw [HE.out, heq, List.take_length]⟩
      have HO' : Aside0 (wr.ownsRow base 62 1 u7 G.length (es.map lent)) := ⟨by have := HO.out; rwa [heq] at this⟩
      have HSR : Aside0 (base ≤ wr.heap.size) := ⟨by have := HB.out.size; have := HBS.out; omega⟩
      clear HE HO
      obtain ⟨F2, HRb, HFb, HFl⟩ : ∃ F2 : Nat → Prop, Aside0 (RoomB wr base F2 g es) ∧ Aside0 (∀ k, u7.ownBlock = some k → ¬ F2 k) ∧ Aside0 (∀ k, F2 k → k < wr.heap.size) := ⟨_, ⟨HR.out.bound⟩, ⟨fun k hk h => HF.out k hk h.1⟩, ⟨fun k h => h.2⟩⟩
      clear heq hes HR HF
      go_wp2_with fail
      clear hlt
      go_loopw [7, 9] (fun v i wr => ∃ ms : List Nat, i = .int .i64 (ms.length : Int) ∧ ms.length ≤ 40 ∧ Aside0 (RoomB wr base F2 g es) ∧ Aside0 (wr.ownsRow base 62 1 v (G.length + ms.length) (es.map lent ++ ms.map mv)) ∧ Aside0 (∀ k, v.ownBlock = some k → ¬ F2 k) ∧ Aside0 (∀ k, F2 k → k < wr.heap.size) ∧ Aside0 (∀ j b, ms[j]? = some b → MarkOk wr base b j) ∧ Aside0 (Below base w0 wr)) (fun _ i _ => 40 - (intOf i).toNat)
      case atStart => exact ⟨[], rfl, by decide, HRb, ⟨by have := HO'.out; simpa using this⟩, HFb, HFl, ⟨fun j b h => by simp at h⟩, HB⟩
      case round =>
        clear HB HRb HO' HFb HFl HSR
        obtain ⟨ms, rfl, hms, HR, HO, HF, HFl, HM, HB⟩ := hrel
        have hs : base ≤ wr.heap.size := by have := HB.out.size; have := HBS.out; omega
        have HSR := Aside0.mk hs
        clear hs
        by_cases hlt : ms.length < 40
        · have HBL : Aside0 (Below wr.heap.size wr (wr.alloc (.cells #[.string (wordS ms.length), .bool false, .string (⟨#[]⟩ : ByteArray)] 64))) := ⟨below_alloc (Below.refl _ _) _⟩
          have HML := Aside0.mk (mark_lit wr base ms.length HSR.out)
          have HS2 : Aside0 (base ≤ (wr.alloc (.cells #[.string (wordS ms.length), .bool false, .string (⟨#[]⟩ : ByteArray)] 64)).heap.size) := ⟨Nat.le_trans HSR.out HBL.out.size⟩
          have HO1 := Aside0.mk (pw_own_below HO.out HBL.out)
          have HBA := Aside0.mk (HB.out.alloc HSR.out (.cells #[.string (wordS ms.length), .bool false, .string (⟨#[]⟩ : ByteArray)] 64))
          go_wp2_with (first
            | (go_at_call 47; go_must (refine (word_callsR ms.length _ (by omega)).mono ?_); rintro e w' ⟨rfl, rfl⟩)
            | ((with_reducible refine gate_builtin (b := .append) (xs := #[.tmp 31, .tmp 36]) rfl ?_); at_builtin; go_must (refine print_append_cells (w0 := w0) (W := wr.alloc (.cells #[.string (wordS ms.length), .bool false, .string (⟨#[]⟩ : ByteArray)] 64)) base rfl (.tmp 31) (.tmp 36) 24 62 (.slice none 0 0) 1 24 rfl Try.underlying24 info_ws rfl (by decide) (by decide) u7 (G.length + ms.length) (es.map lent ++ ms.map mv) [mv wr.heap.size] rfl (by first | rfl | (go_simp; done) | (go_simp; rfl)) rfl (by simp [Value.oneCell', mv]) HO1.out HBA.out HS2.out (by omega) ?_); intro v4 w4 o4 b4 g4 a4; (have HR4 := Aside0.mk ((HR.out.below HBL.out).grown HO1.out g4 (fun k hk hF => HF.out k hk hF))); (have HN4 : Aside0 (∀ k, v4.ownBlock = some k → ¬ F2 k) := ⟨fun k hk hF => by (rcases a4 with h | ⟨q, h, hq⟩); (exact HF.out k (h ▸ hk) hF); (rw [h] at hk; (obtain rfl := Option.some.inj hk); have := HBL.out.size; have := HFl.out q hF; omega)⟩); (have HM4 : Aside0 (∀ j b, (ms ++ [wr.heap.size])[j]? = some b → MarkOk w4 base b j) := ⟨mark_step HM.out HBL.out HML.out HO1.out g4⟩); (have HL4 : Aside0 (∀ k, F2 k → k < w4.heap.size) := ⟨fun k hk => Nat.lt_of_lt_of_le (HFl.out k hk) (Nat.le_trans HBL.out.size g4.size)⟩); (have O4 := Aside0.mk o4); (have B4 := Aside0.mk b4); clear o4 b4 g4 a4))
          go_roundw
          case rel => exact ⟨ms ++ [wr.heap.size], by first | (simp; done) | go_num | (simp; go_num), by simp; omega, HR4, ⟨by have := O4.out; simpa [Nat.add_assoc] using this⟩, HN4, HL4, HM4, B4⟩
          case measure => simp [intOf]; omega
        · have heq : ms.length = 40 := by omega
          have HO' := HO.out
          rw [heq] at HO'
          obtain ⟨A, c, ev⟩ := own_slice HO'
          subst ev
          have HOO := Aside0.mk HO'
          have hcap : G.length + 40 ≤ c := by
            rcases HO'.2 with ⟨k4, _⟩ | ⟨q', cp', cur, k4, k5, k6, k7, _⟩
            · cases k4
            · injection k4 with _ _ j3
              omega
          have HMS := Aside0.mk heq
          obtain ⟨va, vb, hg, hFg, hFb, hFa, hFv, oa, ob, hes'⟩ := HR.out
          have HGR := Aside0.mk hg
          have HGB := Aside0.mk (hFb g hFg)
          have hc0' : wr.cell? ⟨g, 22, none⟩ = some (.slice none 0 0) := by rw [blk_cell hg]; rfl
          clear HO' hg hFg hFb hFa hFv oa ob hes' heq HO
          go_wp2_with (first
            | ((with_reducible refine gate_builtin (b := .append) (xs := #[.tmp 42, .tmp 44]) rfl ?_); at_builtin; go_must (refine print_append_cells (w0 := w0) base rfl (.tmp 42) (.tmp 44) 38 24 (.slice none 0 0) 1 24 rfl Try.underlying38 info_gs rfl (by decide) (by decide) (.slice none 0 0) 0 [] [.slice A (G.length + 40) c] rfl rfl rfl (by simp [Value.oneCell']) (own_nil _ _ _ _) HB.out HSR.out (by omega) ?_); intro v4 w4 o4 b4 g4 a4; (obtain ⟨A4, c4, e4⟩ := own_slice o4); subst e4; (have O4 := Aside0.mk o4); (have B4 := Aside0.mk b4); (have G4 := Aside0.mk g4); (have hg4 := blk_grown HGR.out g4 (by simp [Value.ownBlock])); (have hc4 : w4.cell? ⟨g, 22, none⟩ = some (.slice none 0 0) := by rw [blk_cell hg4]; rfl); (have hf4 : w4.frozen? ⟨g, 22, none⟩ = false := blk_frozen hg4 22); (have hc4' : (w4.setCell ⟨g, 22, none⟩ (.slice A4 1 c4)).cell? ⟨g, 23, none⟩ = some (.slice none 0 0) := by rw [blk_cell (blk_set hg4 22 _)]; rfl); (have HG4 := Aside0.mk hg4); clear o4 b4 g4 a4 hg4 hc0')
            | ((with_reducible refine gate_builtin (b := .append) (xs := #[.tmp 52, .tmp 55]) rfl ?_); at_builtin; go_must (refine print_append_cells (w0 := w0) base rfl (.tmp 52) (.tmp 55) 28 3 (.int .i64 0) 1 8 rfl Try.underlying28 info_int rfl (by decide) (by decide) (.slice none 0 0) 0 [] [.int .i64 (G.length : Int)] rfl (by simp [Act.eval, World.setCell]) rfl (by simp [Value.oneCell']) (own_nil _ _ _ _) (B4.out.setCell (p := ⟨g, 22, none⟩) HGB.out _) (Nat.le_trans HSR.out (by have := G4.out.size; simpa [World.setCell] using this)) (by omega) ?_); intro v5 w5 o5 b5 g5 a5; (obtain ⟨A5, c5, e5⟩ := own_slice o5); subst e5; (have O5 := Aside0.mk o5); (have G5 := Aside0.mk g5); (have hg5 := blk_grown (blk_set HG4.out 22 (.slice A4 1 c4)) g5 (by simp [Value.ownBlock])); (have hc5 : w5.cell? ⟨g, 23, none⟩ = some (.slice none 0 0) := by rw [blk_cell hg5]; rfl); (have hf5 : w5.frozen? ⟨g, 23, none⟩ = false := blk_frozen hg5 23); clear o5 b5 g5 a5 hg5 hc4 hc4' hf4))
          go_ret
          exact group_done HR.out HB.out HBS.out.symm HE'.out HOO.out HMS.out HM.out hG O4.out G4.out O5.out G5.out
end Go.Proofs.Ytnamanalacjhnaa.RmG
