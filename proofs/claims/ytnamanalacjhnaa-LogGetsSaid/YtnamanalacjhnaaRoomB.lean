/- The room's copy of bytes with marks behind it (this claim's own lemmas). -/
import Derived.Test.YtnamanalacjhnaaRoom
namespace Go.Proofs.Ytnamanalacjhnaa.Room
open Go.RowKit Go.Proofs.YtnamanalacjhnaaW.PrintWords Go.Proofs.Ytnamanalacjhnaa.Own
set_option linter.unusedVariables false
def marks (k : Nat) : List Int := (List.range k).map lotb
theorem marks_succ (k : Nat) : marks (k + 1) = marks k ++ [lotb k] := by simp [marks, List.range_succ]
/-- The block b begins with these bytes. -/
def RowAt (W : World) (b : Nat) (l : List Int) : Prop := ∃ cur : Array Value, W.heap[b]? = some (.cells cur 5 (0, 0)) ∧ ∀ j, j < l.length → cur[j]? = some (.int .u8 (l.getD j 0))
theorem RowAt.reads {W : World} {b : Nat} {l : List Int} (h : RowAt W b l) (hl : l.length ≤ 140737488351232) : Kd.C (Kd.int .u8) W (some ⟨b, 0, none⟩) l.length l := by
  obtain ⟨cur, h1, h2⟩ := h
  refine Kd.C_of_reads (enc := Value.int .u8) (d := (0 : Int)) (h1 := fun _ => rfl) ⟨rfl, by omega, fun _ => ⟨_, rfl, fun j hj => ?_⟩⟩
  rw [add_plain, cell_of_row W b j cur _ (0, 0) h1]
  exact h2 j hj
theorem RowAt.below {W W' : World} {b : Nat} {l : List Int} (h : RowAt W b l) (hb : Below W.heap.size W W') : RowAt W' b l := by
  obtain ⟨cur, h1, h2⟩ := h
  exact ⟨cur, (hb.block _ (blk_lt h1)).trans h1, h2⟩
/-- What a copy with marks leaves. -/
def LayPost (w : World) (base : Nat) (F : Nat → Prop) (g : Nat) (es : List Ent) (l0 : List Int) (e : Ending) (w' : World) : Prop :=
  ∃ b cap, e = .returned (.slice (some ⟨b, 0, none⟩) l0.length (l0.length + 600)) ∧ w.heap.size ≤ b ∧ RoomB w' base (fun k => F k ∨ w.heap.size ≤ k ∧ k ≠ b) g (es ++ [⟨b, l0.length, cap⟩]) ∧ RowAt w' b l0 ∧ Below base w w' ∧ (∀ k, k < w.heap.size → ¬ F k → w'.heap[k]? = w.heap[k]?)
theorem setCell_block {W : World} {g j : Nat} {u : Value} {k : Nat} (h : k ≠ g) : (W.setCell ⟨g, j, none⟩ u).heap[k]? = W.heap[k]? := Below.heap_setCell W ⟨g, j, none⟩ u k h
theorem lay_done {w wr w4 w5 : World} {base : Nat} {F : Nat → Prop} {g : Nat} {es : List Ent} {va vb v4 v5 : Value} {b cap : Nat} {cur : Array Value} {l0 : List Int} (hlen : l0.length ≤ 140737488351232)
    (hg : w.heap[g]? = some (.cells (roomCells va vb) 42 (0, 0))) (hFg : F g) (hFb : ∀ k, F k → base ≤ k) (hFa : ∀ k, va.ownBlock = some k → F k) (hFv : ∀ k, vb.ownBlock = some k → F k)
    (oa : w.ownsRow base 45 1 va es.length (es.map entVal)) (ob : w.ownsRow base 3 1 vb es.length (es.map entNum)) (hes : ∀ e ∈ es, EntOk w e)
    (hB : Below w.heap.size w wr) (hbw : w.heap.size ≤ b) (hrow : wr.heap[b]? = some (.cells cur 5 (0, 0))) (hsz : cur.size = cap) (hcap : l0.length + 600 ≤ cap)
    (hcur : ∀ j, j < l0.length → cur[j]? = some (.int .u8 (l0.getD j 0))) (hmk : ∀ k, k < 600 → cur[l0.length + k]? = some (.int .u8 (lotb k)))
    (o4 : w4.ownsRow base 45 1 v4 (es.length + 1) (es.map entVal ++ [.slice (some ⟨b, 0, none⟩) (l0.length + 600) cap])) (g4 : wr.grownBy w4 va.ownBlock) (a4 : v4.ownBlock = va.ownBlock ∨ ∃ q, v4.ownBlock = some q ∧ wr.heap.size ≤ q)
    (o5 : w5.ownsRow base 3 1 v5 (es.length + 1) (es.map entNum ++ [.int .i64 (l0.length : Int)])) (g5 : (w4.setCell ⟨g, 0, none⟩ v4).grownBy w5 vb.ownBlock) (a5 : v5.ownBlock = vb.ownBlock ∨ ∃ q, v5.ownBlock = some q ∧ (w4.setCell ⟨g, 0, none⟩ v4).heap.size ≤ q) :
    LayPost w base F g es l0 (.returned (.slice (some ⟨b, 0, none⟩) l0.length (l0.length + 600))) (w5.setCell ⟨g, 1, none⟩ v5) := by
  have hgw := blk_lt hg
  have hbr := blk_lt hrow
  have hgb : g ≠ b := by omega
  have sz4 := g4.size
  have szr := hB.size
  have sz5 : w4.heap.size ≤ w5.heap.size := by have := g5.size; simpa [World.setCell] using this
  have hgr : wr.heap[g]? = some (.cells (roomCells va vb) 42 (0, 0)) := (hB.block _ hgw).trans hg
  have oar := pw_own_below oa hB
  have obr := pw_own_below ob hB
  have nga : some g ≠ va.ownBlock := own_ne oar hgr (by decide)
  have ngb : some g ≠ vb.ownBlock := own_ne obr hgr (by decide)
  have g4h : w4.heap[g]? = some (.cells (roomCells va vb) 42 (0, 0)) := blk_grown hgr g4 nga
  have g4s := blk_set g4h 0 v4
  have g5h : w5.heap[g]? = _ := blk_grown g4s g5 ngb
  have g5s := blk_set g5h 1 v5
  have lta : ∀ k, va.ownBlock = some k → k < w.heap.size := fun k hk => own_lt oa k hk
  have ltb : ∀ k, vb.ownBlock = some k → k < w.heap.size := fun k hk => own_lt ob k hk
  -- a block that is none of the room's own stays, from wr on
  have keep : ∀ k, k < wr.heap.size → k ≠ g → some k ≠ va.ownBlock → some k ≠ vb.ownBlock → (w5.setCell ⟨g, 1, none⟩ v5).heap[k]? = wr.heap[k]? := by
    intro k hk hkg hka hkb
    rw [setCell_block hkg, g5.block k (by simp [World.setCell]; omega) hkb, setCell_block hkg, g4.block k hk hka]
  have oth : ∀ k o, wr.heap[k]? = some o → k ≠ g → some k ≠ va.ownBlock → some k ≠ vb.ownBlock → (w5.setCell ⟨g, 1, none⟩ v5).heap[k]? = some o := fun k o h h1 h2 h3 => (keep k (blk_lt h) h1 h2 h3).trans h
  have hba : some b ≠ va.ownBlock := fun h => by have := lta b h.symm; omega
  have hbb : some b ≠ vb.ownBlock := fun h => by have := ltb b h.symm; omega
  have hb' := oth b _ hrow (Ne.symm hgb) hba hbb
  refine ⟨b, cap, rfl, hbw, ⟨v4, v5, ?_, .inl hFg, ?_, ?_, ?_, ?_, ?_, ?_⟩, ⟨cur, hb', hcur⟩, ⟨?_, ?_, ?_, ?_, ?_⟩, ?_⟩
  · rw [g5s]; rfl
  · rintro k (hk | ⟨hk, _⟩)
    · exact hFb k hk
    · have := hFb g hFg; omega
  · intro k hk
    rcases a4 with h | ⟨q, h, hq⟩
    · exact .inl (hFa k (h ▸ hk))
    · rw [h] at hk
      obtain rfl := Option.some.inj hk
      exact .inr ⟨by omega, by omega⟩
  · intro k hk
    rcases a5 with h | ⟨q, h, hq⟩
    · exact .inl (hFv k (h ▸ hk))
    · rw [h] at hk
      obtain rfl := Option.some.inj hk
      have : w4.heap.size ≤ q := by simpa [World.setCell] using hq
      exact .inr ⟨by omega, by omega⟩
  · have n4 : some g ≠ v4.ownBlock := own_ne o4 g4h (by decide)
    have o4s := own_setCell (p := ⟨g, 0, none⟩) o4 n4 v4
    have obs : (w4.setCell ⟨g, 0, none⟩ v4).ownsRow base 3 1 vb es.length (es.map entNum) := own_setCell (p := ⟨g, 0, none⟩) (own_other obr g4 (own_type_ne obr oar (by decide))) ngb v4
    have o45 := own_other o4s g5 (own_type_ne o4s obs (by decide))
    have n45 : some g ≠ v4.ownBlock := n4
    have := own_setCell (p := ⟨g, 1, none⟩) o45 n45 v5
    simpa [entVal] using this
  · have n5 : some g ≠ v5.ownBlock := own_ne o5 g5h (by decide)
    have := own_setCell (p := ⟨g, 1, none⟩) o5 n5 v5
    simpa [entNum] using this
  · intro e he
    rcases List.mem_append.1 he with he | he
    · obtain ⟨cu, h1, h2⟩ := (hes e he).below hB
      exact ⟨cu, oth _ _ h1 (blk_ne h1 hgr (by decide)) (fun h => own_ne oar h1 (by decide) h) (fun h => own_ne obr h1 (by decide) h), h2⟩
    · obtain rfl : e = ⟨b, l0.length, cap⟩ := by simpa using he
      exact ⟨cur, hb', by simpa [hsz] using hcap, hcap, hlen, hmk⟩
  · simp [World.setCell, g5.os, g4.os, hB.os]
  · simp [World.setCell, g5.tape, g4.tape, hB.tape]
  · simp [World.setCell, g5.output, g4.output, hB.output]
  · simp [World.setCell]; omega
  · intro k hk
    have : ¬ F k → _ := fun h => h
    by_cases hkw : k < w.heap.size
    · exact (keep k (by omega) (by rintro rfl; have := hFb _ hFg; omega) (fun h => by have := hFb k (hFa k h.symm); omega) (fun h => by have := hFb k (hFv k h.symm); omega)).trans (hB.block k hkw)
    · have := hFb g hFg; omega
  · intro k hk hF
    exact (keep k (by omega) (by rintro rfl; exact hF hFg) (fun h => hF (hFa k h.symm)) (fun h => hF (hFv k h.symm))).trans (hB.block k hk)
set_option maxHeartbeats 1000000 in
set_option maxRecDepth 100000 in
theorem layBytes_calls (A0 : Option Addr) (c0 : Nat) (l0 : List Int) (w : World) (base : Nat) (F : Nat → Prop) (g : Nat) (es : List Ent) (hR : RoomB w base F g es) (hes : es.length ≤ 1000)
    (hr0 : Kd.C (Kd.int .u8) w A0 l0.length l0) (hc0 : l0.length ≤ c0) (hlen : l0.length ≤ 140737488351232) :
    Calls Try.prog 39 #[.pointer (some ⟨g, 0, none⟩), .slice A0 l0.length c0, .int .i64 600] w (LayPost w base F g es l0) := by
  have HR0 := Aside0.mk hr0
  have HR := Aside0.mk hR
  have HB := Aside0.mk (Below.refl w.heap.size w)
  clear hr0 hR
  go_enter Try.func39, Try.ntmps39
  go_wp2_with (first
    | ((with_reducible refine gate_dst (N := 9) rfl ?_); go_must (refine Kd.R_lit (Kd.int .u8) w.heap.size 5 ?hg (N := 9) ?hd (xs := ([] : List Int)) (inner := []) (ok := fun _ => True) (okp := fun _ => True) ?hr ?hp (fun _ hk => hk) trivial HB.out (Nat.le_refl _) (by simp) ?_); (case hd => rfl); (case hg => rfl); (case hr => first | (go_simp; done) | (go_simp; rfl)); (case hp => exact Reps.none _ _); intro v1 w1 ho hb hg_ hn_; clear HB; (have HO1 := Aside0.mk ho); (have HB := Aside0.mk hb); clear ho hb hg_ hn_)
    | ((with_reducible refine gate_builtin (b := .append) (xs := #[.tmp 10, .tmp 11]) rfl ?_); at_builtin; go_must (refine Kd.R_append_rows (Kd.int .u8) (w0 := w) w.heap.size rfl (.tmp 10) (.tmp 11) 45 5 (.int .u8 0) 1 rfl Try.underlying45 info_u8 rfl (by decide) (by omega) v1 ([] : List Int) l0 _ _ _ (fun _ => True) (fun _ => False) rfl rfl ?aO ?aR (fun _ _ h => h) (fun _ h => h.elim) (fun _ _ => trivial) HB.out HB.out.size ?aL ?_); (case aR => exact Kd.C_below HR0.out HB.out); (case aO => exact HO1.out); (case aL => simp; omega); intro v2 w2 ho hb hg_ hn_; clear HB HO1; (have HO2 := Aside0.mk ho); (have HB := Aside0.mk hb); clear ho hb hg_ hn_))
  go_loopw [7, 8] (fun v i wr => ∃ k : Nat, k ≤ 600 ∧ i = .int .i64 k ∧ Aside0 (Kd.R (Kd.int .u8) 5 wr w.heap.size (fun _ => True) v (l0 ++ marks k)) ∧ Aside0 (Below w.heap.size w wr)) (fun _ i _ => 600 - (intOf i).toNat)
  case atStart => exact ⟨0, by omega, rfl, ⟨by have := HO2.out; simpa [marks] using this⟩, HB⟩
  case round =>
    clear HB HO2
    obtain ⟨k, hk, rfl, HO, HB⟩ := hrel
    by_cases hlt : k < 600
    · have HM := Aside0.mk (marks_succ k)
      have HL := Aside0.mk (lot_byte k)
      have HLEN := Aside0.mk (show (l0 ++ marks k).length = l0.length + k by simp [marks])
      go_wp2_with (first
        | (go_at_call 50; go_must (refine (lot_calls k _ (by omega)).mono ?_); rintro e w' ⟨rfl, rfl⟩)
        | ((with_reducible refine gate_builtin (b := .append) (xs := #[.tmp 18, .tmp 22]) rfl ?_); at_builtin; go_must (refine Kd.R_append (Kd.int .u8) (w0 := w) w.heap.size rfl (.tmp 18) (.tmp 22) 45 5 (.int .u8 0) 1 rfl Try.underlying45 info_u8 rfl (by decide) (by omega) _ (l0 ++ marks k) (loti k % 256) [.int .u8 (loti k % 256)] (fun _ => True) (fun _ => False) rfl rfl rfl (fun _ hk => hk.elim) (fun _ _ => trivial) HO.out HB.out HB.out.size ?aL ?_); (case aL => have := HLEN.out; omega); intro v3 w3 ho hb hg_ hn_; rw [HL.out] at ho; clear HB HO; (have HO3 := Aside0.mk ho); (have HB := Aside0.mk hb); clear ho hb hg_ hn_))
      go_roundw
      case rel => exact ⟨k + 1, by omega, by go_num, ⟨by rw [HM.out, ← List.append_assoc]; exact HO3.out⟩, HB⟩
      case measure => simp [intOf]; omega
    · obtain rfl : k = 600 := by omega
      have HOW := Aside0.mk (Kd.own_of_R (enc := Value.int .u8) (h1 := fun _ => rfl) HO.out)
      obtain ⟨b, cap, cur, rfl, hbw, hrow, hn, hcm, hsz, htk⟩ : ∃ b cap cur, u7 = .slice (some ⟨b, 0, none⟩) (l0.length + 600) cap ∧ w.heap.size ≤ b ∧ wr.heap[b]? = some (.cells cur 5 (0, 0)) ∧ l0.length + 600 ≤ cap ∧ cap ≤ maxLen ∧ cur.size = cap ∧ cur.toList.take (l0.length + 600) = encs (Value.int .u8) (l0 ++ marks 600) := by
        have hl : (l0 ++ marks 600).length = l0.length + 600 := by simp [marks]
        rcases HOW.out.2 with ⟨_, h0⟩ | ⟨b, cap, cur, h1, h2, h3, h4, h5, h6, h7⟩
        · omega
        · rw [hl] at h1 h4 h7
          exact ⟨b, cap, cur, h1, h2, h3, h4, h5, by omega, by rw [Nat.mul_one] at h7; exact h7⟩
      have hcur : ∀ j, j < l0.length → cur[j]? = some (.int .u8 (l0.getD j 0)) := by
        intro j hj
        have := congrArg (fun l => l[j]?) htk
        simp only [List.getElem?_take, show j < l0.length + 600 by omega, if_true] at this
        rw [← Array.getElem?_toList, this, encs_get (d := (0 : Int)) _ j (by simp [marks]; omega)]
        simp [List.getD_eq_getElem?_getD, List.getElem?_append_left hj]
      have hmk : ∀ k, k < 600 → cur[l0.length + k]? = some (.int .u8 (lotb k)) := by
        intro k hk
        have := congrArg (fun l => l[l0.length + k]?) htk
        simp only [List.getElem?_take, show l0.length + k < l0.length + 600 by omega, if_true] at this
        rw [← Array.getElem?_toList, this, encs_get (d := (0 : Int)) _ _ (by simp [marks]; omega)]
        simp [List.getD_eq_getElem?_getD, marks, hk]
      have HCUR := Aside0.mk hcur
      have HMK := Aside0.mk hmk
      have HROW := Aside0.mk hrow
      have HSZ := Aside0.mk hsz
      clear hcur hmk hrow hsz htk HOW HO hk hlt
      obtain ⟨va, vb, hg, hFg, hFb, hFa, hFv, oa, ob, hes'⟩ := HR.out
      have hbase : base ≤ w.heap.size := Nat.le_trans (hFb g hFg) (Nat.le_of_lt (blk_lt hg))
      have hgr : wr.heap[g]? = some (.cells (roomCells va vb) 42 (0, 0)) := (HB.out.block _ (blk_lt hg)).trans hg
      have OA := Aside0.mk (pw_own_below oa HB.out)
      have OB := Aside0.mk (pw_own_below ob HB.out)
      have NGA := Aside0.mk (own_ne OA.out hgr (by decide))
      have NGB := Aside0.mk (own_ne OB.out hgr (by decide))
      have NAB := Aside0.mk (own_type_ne OB.out OA.out (by decide))
      have HBB := Aside0.mk (HB.out.mono hbase)
      have HGR := Aside0.mk hgr
      have hc0' : wr.cell? ⟨g, 0, none⟩ = some va := by rw [blk_cell hgr]; rfl
      have HBS := Aside0.mk (Nat.le_trans hbase HB.out.size)
      have HALL := Aside0.mk (And.intro hg (And.intro hFg (And.intro hFb (And.intro hFa (And.intro hFv (And.intro oa (And.intro ob hes')))))))
      clear hg hFg hFb hFa hFv oa ob hes' hgr hbase HR
      go_wp2_with (first
        | ((with_reducible refine gate_builtin (b := .append) (xs := #[.tmp 28, .tmp 30]) rfl ?_); at_builtin; go_must (refine print_append_cells (w0 := w) base rfl (.tmp 28) (.tmp 30) 27 45 (.slice none 0 0) 1 24 rfl Try.underlying27 info_bytes rfl (by decide) (by decide) va es.length (es.map entVal) [.slice (some ⟨b, 0, none⟩) (l0.length + 600) cap] rfl rfl rfl (by simp [Value.oneCell']) OA.out HBB.out HBS.out (by omega) ?_); intro v4 w4 o4 b4 g4 a4; (obtain ⟨A4, c4, e4⟩ := own_slice o4); subst e4; (have O4 := Aside0.mk o4); (have B4 := Aside0.mk b4); (have G4 := Aside0.mk g4); (have A4' := Aside0.mk a4); (have hg4 := blk_grown HGR.out g4 NGA.out); (have hc4 : w4.cell? ⟨g, 0, none⟩ = some va := by rw [blk_cell hg4]; rfl); (have hf4 : w4.frozen? ⟨g, 0, none⟩ = false := blk_frozen hg4 0); (have hc4' : (w4.setCell ⟨g, 0, none⟩ (.slice A4 (es.length + 1) c4)).cell? ⟨g, 1, none⟩ = some vb := by rw [blk_cell (blk_set hg4 0 _)]; rfl); (have HG4 := Aside0.mk hg4); clear o4 b4 g4 a4 hg4 hc0')
        | ((with_reducible refine gate_builtin (b := .append) (xs := #[.tmp 38, .tmp 41]) rfl ?_); at_builtin; go_must (refine print_append_cells (w0 := w) base rfl (.tmp 38) (.tmp 41) 28 3 (.int .i64 0) 1 8 rfl Try.underlying28 info_int rfl (by decide) (by decide) vb es.length (es.map entNum) [.int .i64 (l0.length : Int)] rfl (by simp [Act.eval, World.setCell]) rfl (by simp [Value.oneCell']) (own_setCell (p := ⟨g, 0, none⟩) (own_other OB.out G4.out NAB.out) NGB.out _) (B4.out.setCell (p := ⟨g, 0, none⟩) (HALL.out.2.2.1 g HALL.out.2.1) _) (Nat.le_trans HBS.out (by have := G4.out.size; simpa [World.setCell] using this)) (by omega) ?_); intro v5 w5 o5 b5 g5 a5; (obtain ⟨A5, c5, e5⟩ := own_slice o5); subst e5; (have O5 := Aside0.mk o5); (have G5 := Aside0.mk g5); (have A5' := Aside0.mk a5); (have hg5 := blk_grown (blk_set HG4.out 0 (.slice A4 (es.length + 1) c4)) g5 NGB.out); (have hc5 : w5.cell? ⟨g, 1, none⟩ = some vb := by rw [blk_cell hg5]; rfl); (have hf5 : w5.frozen? ⟨g, 1, none⟩ = false := blk_frozen hg5 1); clear o5 b5 g5 a5 hg5 hc4 hc4' hf4))
      go_ret
      obtain ⟨hg, hFg, hFb, hFa, hFv, oa, ob, hes'⟩ := HALL.out
      exact lay_done hlen hg hFg hFb hFa hFv oa ob hes' HB.out hbw HROW.out HSZ.out hn HCUR.out HMK.out O4.out G4.out A4'.out O5.out G5.out A5'.out
end Go.Proofs.Ytnamanalacjhnaa.Room
