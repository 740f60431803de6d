/- The room's copy of writes with marks behind it (this claim's own lemmas). -/
import Derived.Test.YtnamanalacjhnaaRmG
namespace Go.Proofs.Ytnamanalacjhnaa.RmG
open Go.RowKit Go.Proofs.YtnamanalacjhnaaW.PrintWords Go.Proofs.Ytnamanalacjhnaa.Own Go.Proofs.Ytnamanalacjhnaa.Wk
set_option linter.unusedVariables false
set_option maxHeartbeats 1000000 in
set_option maxRecDepth 100000 in
theorem layWrites_calls (A0 : Option Addr) (c0 : Nat) (l0 : List Wr) (w : World) (base : Nat) (F : Nat → Prop) (g : Nat) (es : List Ent) (hR : RoomB w base F g es) (hes : es.length ≤ 100000)
    (hr0 : Kd.C kW w A0 l0.length l0) (hc0 : l0.length ≤ c0) (hlen : l0.length ≤ 100000) :
    Calls Try.prog 46 #[.pointer (some ⟨g, 0, none⟩), .slice A0 l0.length c0, .int .i64 4] w (LayPost w base F g es l0) := by
  have HR0 := Aside0.mk hr0
  have HR := Aside0.mk hR
  have HB := Aside0.mk (Below.refl w.heap.size w)
  clear hr0 hR
  go_enter Try.func46, Try.ntmps46
  go_wp2_with (first
    | ((with_reducible refine gate_dst (N := 9) rfl ?_); go_must (refine Kd.R_lit kW w.heap.size 64 ?hg (N := 9) ?hd (xs := ([] : List Wr)) (inner := []) (ok := fun _ => True) (okp := fun _ => True) ?hr ?hp (fun _ hk => hk) trivial HB.out (Nat.le_refl _) (by simp) ?_); (case hd => rfl); (case hg => rfl); (case hr => first | (go_simp; done) | (go_simp; rfl)); (case hp => exact Reps.none _ _); intro v1 w1 ho hb hg_ hn_; clear HB; (have HO1 := Aside0.mk ho); (have HB := Aside0.mk hb); clear ho hb hg_ hn_)
    | ((with_reducible refine gate_builtin (b := .append) (xs := #[.tmp 10, .tmp 11]) rfl ?_); at_builtin; go_must (refine Kd.R_append_rows kW (Rr := kW.K ?aW) (w0 := w) w.heap.size rfl (.tmp 10) (.tmp 11) 62 64 (.agg #[(.string ⟨#[]⟩), (.bool false), (.string ⟨#[]⟩)]) 40 rfl Try.underlying62 infoW rfl (by decide) (by omega) v1 ([] : List Wr) l0 _ _ _ (fun _ => True) (fun _ => False) rfl rfl ?aO ?aR ?aK (fun _ h => h.elim) (fun _ _ => trivial) HB.out HB.out.size ?aL ?_); (case aR => exact Kd.C_below HR0.out HB.out); (case aO => exact HO1.out); (case aL => simp; omega); (case aK => intro x cs h; rw [QPt.k64_open h]; exact QPt.k64_mkM _ _ _ _); intro v2 w2 ho hb hg_ hn_; clear HB HO1; (have HO2 := Aside0.mk ho); (have HB := Aside0.mk hb); clear ho hb hg_ hn_))
  go_loopw [7, 8] (fun v i wr => ∃ k : Nat, k ≤ 4 ∧ i = .int .i64 k ∧ Aside0 (Kd.R kW 64 wr w.heap.size (fun _ => True) v (l0 ++ marksW k)) ∧ Aside0 (Below w.heap.size w wr)) (fun _ i _ => 4 - (intOf i).toNat)
  case atStart => exact ⟨0, by omega, rfl, ⟨by have := HO2.out; simpa [marksW] using this⟩, HB⟩
  case round =>
    clear HB HO2
    obtain ⟨k, hk, rfl, HO, HB⟩ := hrel
    by_cases hlt : k < 4
    · have HM := Aside0.mk (marksW_succ k)
      have HLEN := Aside0.mk (show (l0 ++ marksW k).length = l0.length + k by simp [marksW])
      go_wp2_with (first
        | (go_at_call 47; go_must (refine (word_calls k _ (by omega)).mono ?_); rintro e w' ⟨rfl, rfl⟩)
        | ((with_reducible refine gate_builtin (b := .append) (xs := #[.tmp 18, .tmp 22]) rfl ?_); at_builtin; go_must (refine Kd.R_append kW (w0 := w) w.heap.size rfl (.tmp 18) (.tmp 22) 62 64 (.agg #[(.string ⟨#[]⟩), (.bool false), (.string ⟨#[]⟩)]) 40 rfl Try.underlying62 infoW rfl (by decide) (by omega) _ (l0 ++ marksW k) (markW k) [.string (wordS k), .bool false, .string (⟨#[]⟩ : ByteArray)] (fun _ => True) (fun _ => False) rfl (by first | (go_simp; done) | (go_simp; rfl)) (QPt.k64_mkM _ _ _ (markW k)) (fun _ hk => hk.elim) (fun _ _ => trivial) HO.out HB.out HB.out.size ?aL ?_); (case aL => have := HLEN.out; omega); intro v3 w3 ho hb hg_ hn_; clear HB HO; (have HO3 := Aside0.mk ho); (have HB := Aside0.mk hb); clear ho hb hg_ hn_))
      go_roundw
      case rel => exact ⟨k + 1, by omega, by go_num, ⟨by rw [HM.out, ← List.append_assoc]; exact HO3.out⟩, HB⟩
      case measure => simp [intOf]; omega
    · obtain rfl : k = 4 := by omega
      obtain ⟨b, cap, rfl, hn⟩ : ∃ b cap, u7 = .slice (some ⟨b, 0, none⟩) (l0.length + 4) cap ∧ l0.length + 4 ≤ cap := by
        obtain ⟨inner, ho⟩ := Kd.R_own HO.out
        have hl : (l0 ++ marksW 4).length = l0.length + 4 := by simp [marksW]
        obtain ⟨q, cap, h1, h2, h3⟩ := ho.form (by omega)
        obtain ⟨A, c, h4, h5, h6⟩ := Kd.R_reads HO.out
        rw [h1] at h4
        injection h4 with i1 i2 i3
        rw [hl] at h1 h5
        exact ⟨q, cap, h1, by omega⟩
      have hbw : w.heap.size ≤ b := Kd.R_base HO.out b (by simp [Value.ownBlock])
      obtain ⟨va, vb, hg, hFg, hFb, hFa, hFv, oa, ob, hes'⟩ := HR.out
      have hbase : base ≤ w.heap.size := Nat.le_trans (hFb g hFg) (Nat.le_of_lt (blk_lt hg))
      have hgr : wr.heap[g]? = some (.cells (roomCells va vb (.slice none 0 0) (.slice none 0 0)) 42 (0, 0)) := (HB.out.block _ (blk_lt hg)).trans hg
      have OA := Aside0.mk (pw_own_below oa HB.out)
      have OB := Aside0.mk (pw_own_below ob HB.out)
      have NGA := Aside0.mk (own_ne OA.out hgr (by decide))
      have NGB := Aside0.mk (own_ne OB.out hgr (by decide))
      have NAB := Aside0.mk (own_type_ne OB.out OA.out (by decide))
      have HBB := Aside0.mk (HB.out.mono hbase)
      have HGR := Aside0.mk hgr
      have hc0' : wr.cell? ⟨g, 12, none⟩ = some va := by rw [blk_cell hgr]; rfl
      have HBS := Aside0.mk (Nat.le_trans hbase HB.out.size)
      have HALL := Aside0.mk (And.intro hg (And.intro hFg (And.intro hFb (And.intro hFa (And.intro hFv (And.intro oa (And.intro ob hes')))))))
      clear hg hFg hFb hFa hFv oa ob hes' hgr hbase HR hk hlt
      go_wp2_with (first
        | ((with_reducible refine gate_builtin (b := .append) (xs := #[.tmp 28, .tmp 30]) rfl ?_); at_builtin; go_must (refine print_append_cells (w0 := w) base rfl (.tmp 28) (.tmp 30) 24 62 (.slice none 0 0) 1 24 rfl Try.underlying24 info_ws rfl (by decide) (by decide) va es.length (es.map full) [.slice (some ⟨b, 0, none⟩) (l0.length + 4) cap] rfl rfl rfl (by simp [Value.oneCell']) OA.out HBB.out HBS.out (by omega) ?_); intro v4 w4 o4 b4 g4 a4; (obtain ⟨A4, c4, e4⟩ := own_slice o4); subst e4; (have O4 := Aside0.mk o4); (have B4 := Aside0.mk b4); (have G4 := Aside0.mk g4); (have A4' := Aside0.mk a4); (have hg4 := blk_grown HGR.out g4 NGA.out); (have hc4 : w4.cell? ⟨g, 12, none⟩ = some va := by rw [blk_cell hg4]; rfl); (have hf4 : w4.frozen? ⟨g, 12, none⟩ = false := blk_frozen hg4 12); (have hc4' : (w4.setCell ⟨g, 12, none⟩ (.slice A4 (es.length + 1) c4)).cell? ⟨g, 13, none⟩ = some vb := by rw [blk_cell (blk_set hg4 12 _)]; rfl); (have HG4 := Aside0.mk hg4); clear o4 b4 g4 a4 hg4 hc0')
        | ((with_reducible refine gate_builtin (b := .append) (xs := #[.tmp 38, .tmp 41]) rfl ?_); at_builtin; go_must (refine print_append_cells (w0 := w) base rfl (.tmp 38) (.tmp 41) 28 3 (.int .i64 0) 1 8 rfl Try.underlying28 info_int rfl (by decide) (by decide) vb es.length (es.map num) [.int .i64 (l0.length : Int)] rfl (by simp [Act.eval, World.setCell]) rfl (by simp [Value.oneCell']) (own_setCell (p := ⟨g, 12, none⟩) (own_other OB.out G4.out NAB.out) NGB.out _) (B4.out.setCell (p := ⟨g, 12, none⟩) (HALL.out.2.2.1 g HALL.out.2.1) _) (Nat.le_trans HBS.out (by have := G4.out.size; simpa [World.setCell] using this)) (by omega) ?_); intro v5 w5 o5 b5 g5 a5; (obtain ⟨A5, c5, e5⟩ := own_slice o5); subst e5; (have O5 := Aside0.mk o5); (have G5 := Aside0.mk g5); (have A5' := Aside0.mk a5); (have hg5 := blk_grown (blk_set HG4.out 12 (.slice A4 (es.length + 1) c4)) g5 NGB.out); (have hc5 : w5.cell? ⟨g, 13, none⟩ = some vb := by rw [blk_cell hg5]; rfl); (have hf5 : w5.frozen? ⟨g, 13, none⟩ = false := blk_frozen hg5 13); clear o5 b5 g5 a5 hg5 hc4 hc4' hf4))
      go_ret
      obtain ⟨hg, hFg, hFb, hFa, hFv, oa, ob, hes'⟩ := HALL.out
      exact lay_done hg hFg hFb hFa hFv oa ob hes' HB.out hbw HO.out O4.out G4.out A4'.out O5.out G5.out A5'.out
end Go.Proofs.Ytnamanalacjhnaa.RmG
