/- The reader's walks (this claim's own lemmas). -/
import Derived.Test.YtnamanalacjhnaaGetP
namespace Go.Proofs.Ytnamanalacjhnaa.Gt
open Go.RowKit Go.Proofs.YtnamanalacjhnaaW.PrintWords Go.Proofs.Ytnamanalacjhnaa.Own Go.Proofs.Ytnamanalacjhnaa.Wk Go.Proofs.Ytnamanalacjhnaa.QGt
set_option linter.unusedVariables false
theorem infoU : (Try.prog.info? 5).map (fun i => (i.zero, i.size, i.bytes)) = some (some (.int .u8 0), 1, 1) := by kernel_rfl
/-- The reader at block g: what is left, read at the call's begin w; W: now. -/
structure Rdr (w W : World) (g : Nat) (s : St) : Prop where
  cell : ∃ A n c, W.heap[g]? = some (.cells #[.slice A n c, .int .i64 (s.2 : Int)] 71 (0, 0)) ∧ Rd (Kd.int .u8) w A n c s.1
  bel : Below w.heap.size w W
  ge : w.heap.size ≤ g
def Kp (W W' : World) (g : Nat) : Prop := W.heap.size ≤ W'.heap.size ∧ ∀ k, k < W.heap.size → k ≠ g → W'.heap[k]? = W.heap[k]?
theorem Kp.refl (W : World) (g : Nat) : Kp W W g := ⟨Nat.le_refl _, fun _ _ _ => rfl⟩
theorem Kp.trans {W W' W'' : World} {g : Nat} (h : Kp W W' g) (h' : Kp W' W'' g) : Kp W W'' g := ⟨Nat.le_trans h.1 h'.1, fun k hk hg => (h'.2 k (Nat.lt_of_lt_of_le hk h.1) hg).trans (h.2 k hk hg)⟩
theorem Kp.of_below {W W' : World} {g : Nat} (h : Below W.heap.size W W') : Kp W W' g := ⟨h.size, fun k hk _ => h.block k hk⟩
theorem Kp.set (W : World) (g j : Nat) (v : Value) : Kp W (W.setCell ⟨g, j, none⟩ v) g := ⟨by simp [World.setCell], fun k _ hg => Below.heap_setCell W ⟨g, j, none⟩ v k hg⟩
theorem Rdr.step {w W W' : World} {g : Nat} {s : St} (h : Rdr w W g s) (hb : Below W.heap.size W W') : Rdr w W' g s := by
  obtain ⟨A, n, c, h1, h2⟩ := h.cell
  exact ⟨⟨A, n, c, (hb.block g (blk_lt h1)).trans h1, h2⟩, below_then h.bel h.bel.size hb, h.ge⟩
theorem Rdr.err {w W : World} {g : Nat} {s : St} (h : Rdr w W g s) : W.cell? ⟨g, 1, none⟩ = some (.int .i64 (s.2 : Int)) := by
  obtain ⟨A, n, c, h1, h2⟩ := h.cell
  rw [blk_cell h1]; rfl
theorem Rdr.frz {w W : World} {g : Nat} {s : St} (h : Rdr w W g s) (j : Nat) : W.frozen? ⟨g, j, none⟩ = false := by
  obtain ⟨A, n, c, h1, h2⟩ := h.cell
  exact blk_frozen h1 j
theorem Rdr.list {w W : World} {g : Nat} {s : St} (h : Rdr w W g s) : ∃ A n c, W.cell? ⟨g, 0, none⟩ = some (.slice A n c) ∧ Rd (Kd.int .u8) w A n c s.1 := by
  obtain ⟨A, n, c, h1, h2⟩ := h.cell
  exact ⟨A, n, c, by rw [blk_cell h1]; rfl, h2⟩
theorem Rdr.set1 {w W : World} {g : Nat} {s : St} (h : Rdr w W g s) (e : Nat) : Rdr w (W.setCell ⟨g, 1, none⟩ (.int .i64 (e : Int))) g (s.1, e) := by
  obtain ⟨A, n, c, h1, h2⟩ := h.cell
  exact ⟨⟨A, n, c, by rw [blk_set h1]; rfl, h2⟩, h.bel.setCell (p := ⟨g, 1, none⟩) h.ge _, h.ge⟩
theorem Rdr.set0 {w W : World} {g : Nat} {s : St} (h : Rdr w W g s) {A : Option Addr} {n c : Nat} {l : List Int} (hr : Rd (Kd.int .u8) w A n c l) : Rdr w (W.setCell ⟨g, 0, none⟩ (.slice A n c)) g (l, s.2) := by
  obtain ⟨A', n', c', h1, h2⟩ := h.cell
  exact ⟨⟨A, n, c, by rw [blk_set h1]; rfl, hr⟩, h.bel.setCell (p := ⟨g, 0, none⟩) h.ge _, h.ge⟩
theorem Rdr.far {w W : World} {g : Nat} {s : St} (h : Rdr w W g s) {p : Addr} (hp : g ≠ p.block) (hge : w.heap.size ≤ p.block) (u : Value) : Rdr w (W.setCell p u) g s := by
  obtain ⟨A, n, c, h1, h2⟩ := h.cell
  exact ⟨⟨A, n, c, blk_far h1 hp u, h2⟩, h.bel.setCell (p := p) hge _, h.ge⟩
theorem Rdr.lt {w W : World} {g : Nat} {s : St} (h : Rdr w W g s) : g < W.heap.size := by
  obtain ⟨A, n, c, h1, h2⟩ := h.cell
  exact blk_lt h1
theorem Kp.far {W0 W : World} {g : Nat} (h : Kp W0 W g) {p : Addr} (hge : W0.heap.size ≤ p.block) (u : Value) : Kp W0 (W.setCell p u) g := ⟨by simp [World.setCell]; exact h.1, fun k hk hg => (Below.heap_setCell W p u k (by omega)).trans (h.2 k hk hg)⟩
theorem Kp.own {W0 W : World} {g : Nat} (h : Kp W0 W g) (j : Nat) (u : Value) : Kp W0 (W.setCell ⟨g, j, none⟩ u) g := h.trans (Kp.set W g j u)
theorem Kp.blk {W W' : World} {g b : Nat} {o : Obj} (h : Kp W W' g) (ho : W.heap[b]? = some o) (hne : b ≠ g) : W'.heap[b]? = some o := (h.2 b (blk_lt ho) hne).trans ho
def wv (x : Wr) : Value := .agg #[.string x.f0, .bool x.f1, .string x.f2]
theorem Rdr.grown {w W W' : World} {g b : Nat} {s : St} {row : Option Nat} (h : Rdr w W g s) (hb : Below b W W') (hle : w.heap.size ≤ b) (hg : W.grownBy W' row) (hne : some g ≠ row) : Rdr w W' g s := by
  obtain ⟨A, n, c, h1, h2⟩ := h.cell
  have hlt := blk_lt h1
  refine ⟨⟨A, n, c, (hg.block g hlt hne).trans h1, h2⟩, ⟨hb.os.trans h.bel.os, hb.tape.trans h.bel.tape, hb.output.trans h.bel.output, Nat.le_trans h.bel.size hg.size, fun k hk => (hb.block k (by omega)).trans (h.bel.block k hk)⟩, h.ge⟩
theorem Kp.grown {W0 W W' : World} {g : Nat} {row : Option Nat} (h : Kp W0 W g) (hg : W.grownBy W' row) (hne : ∀ k, row = some k → W0.heap.size ≤ k) : Kp W0 W' g :=
  ⟨Nat.le_trans h.1 hg.size, fun k hk hkg => (hg.block k (Nat.lt_of_lt_of_le hk h.1) (fun e => by have := hne k e.symm; omega)).trans (h.2 k hk hkg)⟩
theorem Kp.row {α : Type} {d : Kd α} {e base : Nat} {W W' : World} {g : Nat} {v : Value} {xs : List α} (h : Kd.R d e W base (fun k => k ≠ g) v xs) (hk : Kp W W' g) : Kd.R d e W' base (fun k => k ≠ g) v xs := Kd.R_step h (fun k ho hlt => hk.2 k hlt ho)
/-- What a reader's call leaves that makes a list. -/
def PostB (w W : World) (g : Nat) (l : List Wr) (s' : St) (e : Ending) (W' : World) : Prop := ∃ v, e = .returned v ∧ Rdr w W' g s' ∧ Kp W W' g ∧ Kd.R k64 64 W' W.heap.size (fun k => k ≠ g) v l
/-- What a reader's call leaves. -/
def Post (w W : World) (g : Nat) (v : Value) (s' : St) (e : Ending) (W' : World) : Prop := e = .returned v ∧ Rdr w W' g s' ∧ Kp W W' g
set_option maxHeartbeats 1000000 in
set_option maxRecDepth 100000 in
theorem number_calls {w W : World} {g : Nat} {s : St} (h : Rdr w W g s) (hb : Bytes s.1) (hl : s.1.length ≤ 140737488351232) :
    Calls Try.prog 40 #[.pointer (some ⟨g, 0, none⟩)] W (Post w W g (.int .u64 ((numS s).1 : Int)) (numS s).2) := by
  have H := Aside0.mk h
  have hc1 := h.err
  by_cases he : s.2 = 0
  · have d1 : ((s.2 : Int) != 0) = false := by rw [bne_eq_false_iff_eq]; omega
    have hs := uintN_spec s.1 hb
    obtain ⟨n, k, e, hN, s1, s2, s3⟩ : ∃ n k e, uintN s.1 = (n, k, e) ∧ n < 18446744073709551616 ∧ k ≤ s.1.length ∧ k ≤ 10 := ⟨_, _, _, rfl, hs⟩
    have HS : Aside0 (numS s = (n, (s.1.drop k, e))) := ⟨by unfold numS; rw [if_neg (by omega), hN]⟩
    obtain ⟨A, m, c, hc0, hrd⟩ := h.list
    have hm : s.1.length = m := hrd.1
    have HU : Aside0 (codec_Uint.f s.1 = some ((n : Int), (k : Int), (e : Int))) := ⟨by unfold codec_Uint.f uintL i3; rw [if_pos ⟨okB_iff.2 hb, by omega⟩, hN]⟩
    have hkm : k ≤ m := by omega
    obtain ⟨A', hfrom, hfr⟩ := Rd.from (P := Try.prog) (t := 45) (Kd.int .u8) Try.underlying45 infoU .i64 A m c k hkm hrd.2.1
    have HRF := Aside0.mk (hfr w s.1 hrd)
    have HRD := Aside0.mk (hrd.step h.bel)
    rw [HS.out]
    have hf0 := h.frz 0
    have hf1 := h.frz 1
    clear hs hN hrd hfr hm HS h
    go_enter Try.func40, Try.ntmps40
    go_wp2_with fail
    have hrd' := HRD.out
    obtain ⟨rfl, hmc, hC⟩ := hrd'
    refine (codec_Uint.calls A c s.1 (n : Int) (k : Int) (e : Int) W hC hmc HU.out).mono ?_
    rintro e' W1 ⟨rfl, hD⟩
    have H1 := Aside0.mk (H.out.step hD.below)
    have hc0' : W1.cell? ⟨g, 0, none⟩ = some (.slice A s.1.length c) := (hD.below.cell (p := ⟨g, 0, none⟩) (World.block_lt_of_cell? W _ hc0)).trans hc0
    have hf0' := H1.out.frz 0
    have hf1' := H1.out.frz 1
    have hc1' := H1.out.err
    have HK1 := Aside0.mk (Kp.of_below (g := g) hD.below)
    clear hD
    go_wp2_with fail
    go_ret
    exact ⟨rfl, (H1.out.set0 HRF.out).set1 e, HK1.out.trans ((Kp.set _ g 0 _).trans (Kp.set _ g 1 _))⟩
  · have d1 : ((s.2 : Int) != 0) = true := by rw [bne_iff_ne]; omega
    have HS : Aside0 (numS s = (0, s)) := ⟨by unfold numS; rw [if_pos he]⟩
    rw [HS.out]
    clear HS h he
    go_enter Try.func40, Try.ntmps40
    go_wp2_with fail
    go_ret
    exact ⟨rfl, H.out, Kp.refl _ _⟩
set_option maxHeartbeats 1000000 in
set_option maxRecDepth 100000 in
theorem text_calls {w W : World} {g : Nat} {s : St} (m : Int) (hm0 : 0 ≤ m) (hm1 : m < 1000) (h : Rdr w W g s) (hb : Bytes s.1) (hl : s.1.length ≤ 140737488351232) :
    Calls Try.prog 56 #[.pointer (some ⟨g, 0, none⟩), .int .i64 m] W (Post w W g (.string (textS m s).1) (textS m s).2) := by
  have H := Aside0.mk h
  have hc1 := h.err
  by_cases he : s.2 = 0
  · have d1 : ((s.2 : Int) != 0) = false := by rw [bne_eq_false_iff_eq]; omega
    obtain ⟨b, k, e, hN, hk⟩ := textL_form s.1 m
    have HS : Aside0 (textS m s = (b, (s.1.drop k, e))) := ⟨by unfold textS; rw [if_neg (by omega), hN]; simp⟩
    obtain ⟨A, n, c, hc0, hrd⟩ := h.list
    have hm : s.1.length = n := hrd.1
    have HU : Aside0 (codec_Text.f s.1 m = some (b, (k : Int), (e : Int))) := ⟨by unfold codec_Text.f; rw [if_pos ⟨okB_iff.2 hb, by omega, by omega, by omega⟩, hN]⟩
    have hkm : k ≤ n := by omega
    obtain ⟨A', hfrom, hfr⟩ := Rd.from (P := Try.prog) (t := 45) (Kd.int .u8) Try.underlying45 infoU .i64 A n c k hkm hrd.2.1
    have HRF := Aside0.mk (hfr w s.1 hrd)
    have HRD := Aside0.mk (hrd.step h.bel)
    rw [HS.out]
    have hf0 := h.frz 0
    have hf1 := h.frz 1
    clear hN hrd hfr hm HS h
    go_enter Try.func56, Try.ntmps56
    go_wp2_with fail
    have hrd' := HRD.out
    obtain ⟨rfl, hmc, hC⟩ := hrd'
    refine (codec_Text.calls A c s.1 m b (k : Int) (e : Int) W hC hmc HU.out).mono ?_
    rintro e' W1 ⟨rfl, hD⟩
    have H1 := Aside0.mk (H.out.step hD.below)
    have hc0' : W1.cell? ⟨g, 0, none⟩ = some (.slice A s.1.length c) := (hD.below.cell (p := ⟨g, 0, none⟩) (World.block_lt_of_cell? W _ hc0)).trans hc0
    have hf0' := H1.out.frz 0
    have hf1' := H1.out.frz 1
    have hc1' := H1.out.err
    have HK1 := Aside0.mk (Kp.of_below (g := g) hD.below)
    clear hD
    go_wp2_with fail
    go_ret
    exact ⟨rfl, (H1.out.set0 HRF.out).set1 e, HK1.out.trans ((Kp.set _ g 0 _).trans (Kp.set _ g 1 _))⟩
  · have d1 : ((s.2 : Int) != 0) = true := by rw [bne_iff_ne]; omega
    have HS : Aside0 (textS m s = ((⟨#[]⟩ : ByteArray), s)) := ⟨by unfold textS; rw [if_pos he]⟩
    rw [HS.out]
    clear HS h he
    go_enter Try.func56, Try.ntmps56
    go_wp2_with fail
    go_ret
    exact ⟨rfl, H.out, Kp.refl _ _⟩
set_option maxHeartbeats 1000000 in
set_option maxRecDepth 100000 in
theorem del_calls {w W : World} {g : Nat} {s : St} (h : Rdr w W g s) :
    Calls Try.prog 55 #[.pointer (some ⟨g, 0, none⟩)] W (Post w W g (.bool (delS s).1) (delS s).2) := by
  have H := Aside0.mk h
  have hc1 := h.err
  have hf0 := h.frz 0
  have hf1 := h.frz 1
  by_cases he : s.2 = 0
  · have d1 : ((s.2 : Int) != 0) = false := by rw [bne_eq_false_iff_eq]; omega
    obtain ⟨A, n, c, hc0, hrd⟩ := h.list
    have HRD := Aside0.mk (hrd.step h.bel)
    have hm : s.1.length = n := hrd.1
    subst hm
    by_cases h0 : s.1.length = 0
    · have d2 : ((s.1.length : Int) == 0) = true := by rw [beq_iff_eq]; omega
      have HS : Aside0 (delS s = (false, (s.1, 20))) := ⟨by unfold delS; rw [if_neg (by omega), if_pos h0]⟩
      rw [HS.out]
      clear HS h he h0 hrd
      go_enter Try.func55, Try.ntmps55
      go_wp2_with fail
      go_ret
      exact ⟨rfl, H.out.set1 20, Kp.set _ g 1 _⟩
    · have d2 : ((s.1.length : Int) == 0) = false := by rw [beq_eq_false_iff_ne]; omega
      obtain ⟨ad, hA, hx⟩ := Kd.at_int HRD.out.2.2 0 (by omega) (by omega)
      subst hA
      rw [show ((0 : Int)).toNat = 0 from rfl, Addr.add_zero'] at hx
      have hlt : (0 < s.1.length) = True := eq_true (by omega)
      by_cases h1 : rd s.1 0 > 1
      · have d3 : decide (1 < rd s.1 0) = true := decide_eq_true h1
        have HS : Aside0 (delS s = (false, (s.1, 21))) := ⟨by unfold delS; rw [if_neg (by omega), if_neg h0, if_pos h1]⟩
        rw [HS.out]
        clear HS h he h0 hrd h1
        go_enter Try.func55, Try.ntmps55
        go_wp2_with fail
        go_ret
        exact ⟨rfl, H.out.set1 21, Kp.set _ g 1 _⟩
      · have d3 : decide (1 < rd s.1 0) = false := decide_eq_false h1
        have HS : Aside0 (delS s = (rd s.1 0 == 1, (s.1.drop 1, s.2))) := ⟨by unfold delS; rw [if_neg (by omega), if_neg h0, if_neg h1, he]⟩
        obtain ⟨A', hfrom, hfr⟩ := Rd.from (P := Try.prog) (t := 45) (Kd.int .u8) Try.underlying45 infoU .i64 (some ad) s.1.length c 1 (by omega) hrd.2.1
        have HRF := Aside0.mk (hfr w s.1 hrd)
        rw [show ((1 : Nat) : Int) = 1 from rfl] at hfrom
        rw [HS.out]
        clear HS h he h0 hrd h1 hfr
        go_enter Try.func55, Try.ntmps55
        go_wp2_with fail
        go_ret
        exact ⟨rfl, H.out.set0 HRF.out, Kp.set _ g 0 _⟩
  · have d1 : ((s.2 : Int) != 0) = true := by rw [bne_iff_ne]; omega
    have HS : Aside0 (delS s = (false, s)) := ⟨by unfold delS; rw [if_pos he]⟩
    rw [HS.out]
    clear HS h he
    go_enter Try.func55, Try.ntmps55
    go_wp2_with fail
    go_ret
    exact ⟨rfl, H.out, Kp.refl _ _⟩
set_option maxHeartbeats 4000000 in
set_option maxRecDepth 100000 in
theorem write_calls {w W : World} {g : Nat} {s : St} (h : Rdr w W g s) (hb : Bytes s.1) (hl : s.1.length ≤ 140737488351232) :
    Calls Try.prog 52 #[.pointer (some ⟨g, 0, none⟩)] W (Post w W g (wv (writeS s).1) (writeS s).2) := by
  obtain ⟨dl, s1, hd⟩ : ∃ dl s1, delS s = (dl, s1) := ⟨_, _, rfl⟩
  have q1 := delS_good s
  rw [hd] at q1
  obtain ⟨tk, s2, ht⟩ : ∃ tk s2, textS 64 s1 = (tk, s2) := ⟨_, _, rfl⟩
  have q2 := textS_good 64 s1
  rw [ht] at q2
  have hb1 := q1.1 hb
  have hb2 := q2.1 hb1
  have l1 := q1.2.1
  have l2 := q2.2.1
  have BL := Aside0.mk (And.intro hb1 (And.intro hb2 (And.intro (show s1.1.length ≤ 140737488351232 by simp only at l1; omega) (show s2.1.length ≤ 140737488351232 by simp only at l1 l2; omega))))
  have HS := Aside0.mk (And.intro hd ht)
  have HDc : Aside0 (∀ W : World, Rdr w W g s → Calls Try.prog 55 #[.pointer (some ⟨g, 0, none⟩)] W (Post w W g (.bool dl) s1)) := ⟨fun W R => by have hx := del_calls R; rw [hd] at hx; exact hx⟩
  have GW := Aside0.mk h.lt
  have GE := Aside0.mk h.ge
  have R0 := Aside0.mk h
  have SZ := Aside0.mk (h.bel.size)
  have hus := Try.underlying64
  clear h hb hl hd ht q1 q2 hb1 hb2 l1 l2
  go_enter Try.func52, Try.ntmps52
  go_wp2_with (first | ((with_reducible refine gate_dst (N := 2) rfl ?_); refine box_event ?hg (N := 2) ?hd (cs := #[.string (⟨#[]⟩ : ByteArray), .bool false, .string (⟨#[]⟩ : ByteArray)]) (t := 64) ?hr ?_; (case hd => rfl); (case hg => rfl); (case hr => first | (go_simp; done) | (go_simp; rfl)); intro ga hga Wa hka hba; have Ka := Aside0.mk hka; have Ba := Aside0.mk hba; have Ga := Aside0.mk hga; have hza0 : Wa.cell? ⟨ga, 0, none⟩ = some (.string (⟨#[]⟩ : ByteArray)) := (blk_cell hka 0).trans rfl; have hza1 : Wa.cell? ⟨ga, 1, none⟩ = some (.bool false) := (blk_cell hka 1).trans rfl; have hza2 : Wa.cell? ⟨ga, 2, none⟩ = some (.string (⟨#[]⟩ : ByteArray)) := (blk_cell hka 2).trans rfl; have hfa0 := blk_frozen hka 0; have hfa1 := blk_frozen hka 1; have hfa2 := blk_frozen hka 2; clear hga hka hba))
  refine (HDc.out _ (R0.out.step Ba.out)).mono ?_
  rintro e W1 ⟨rfl, hR1, hK1⟩
  have NA := Aside0.mk (show g ≠ ga by rw [Ga.out]; exact Nat.ne_of_lt GW.out)
  have EA := Aside0.mk (show w.heap.size ≤ ga by rw [Ga.out]; exact SZ.out)
  have SA := Aside0.mk (show W.heap.size ≤ ga by rw [Ga.out]; exact Nat.le_refl _)
  have KA1 := Aside0.mk (hK1.blk Ka.out (Ne.symm NA.out))
  have KP1 := Aside0.mk ((Kp.of_below (g := g) Ba.out).trans hK1)
  have R1 := Aside0.mk hR1
  clear hR1 hK1 hza0 hza1 hza2 hfa0 hfa1 hfa2 Ka
  go_wp2_with (first | ((with_reducible refine gate_dst (N := 3) rfl ?_); refine box_event ?hg (N := 3) ?hd (cs := #[.string (⟨#[]⟩ : ByteArray), .bool false, .string (⟨#[]⟩ : ByteArray)]) (t := 64) ?hr ?_; (case hd => rfl); (case hg => rfl); (case hr => first | (go_simp; done) | (go_simp; rfl)); intro gb hgb Wb hkb hbb; have Kb := Aside0.mk hkb; have Bb := Aside0.mk hbb; have Gb := Aside0.mk hgb; have hzb0 : Wb.cell? ⟨gb, 0, none⟩ = some (.string (⟨#[]⟩ : ByteArray)) := (blk_cell hkb 0).trans rfl; have hzb1 : Wb.cell? ⟨gb, 1, none⟩ = some (.bool false) := (blk_cell hkb 1).trans rfl; have hzb2 : Wb.cell? ⟨gb, 2, none⟩ = some (.string (⟨#[]⟩ : ByteArray)) := (blk_cell hkb 2).trans rfl; have hfb0 := blk_frozen hkb 0; have hfb1 := blk_frozen hkb 1; have hfb2 := blk_frozen hkb 2; clear hgb hkb hbb))
  have NB := Aside0.mk (show g ≠ gb by rw [Gb.out]; exact Nat.ne_of_lt R1.out.lt)
  have EB := Aside0.mk (show w.heap.size ≤ gb by rw [Gb.out]; exact R1.out.bel.size)
  have SB := Aside0.mk (show W.heap.size ≤ gb by rw [Gb.out]; exact KP1.out.1)
  have AB := Aside0.mk (show ga ≠ gb by rw [Gb.out]; exact Nat.ne_of_lt (blk_lt KA1.out))
  have KA2 := Aside0.mk (blk_below KA1.out Bb.out)
  have R2 := Aside0.mk (R1.out.step Bb.out)
  have KP2 := Aside0.mk (KP1.out.trans (Kp.of_below (g := g) Bb.out))
  have HT : Aside0 (∀ W : World, Rdr w W g s1 → Calls Try.prog 56 #[.pointer (some ⟨g, 0, none⟩), .int .i64 64] W (Post w W g (.string tk) s2)) := ⟨fun W R => by have hx := text_calls 64 (by decide) (by decide) R BL.out.1 BL.out.2.2.1; rw [HS.out.2] at hx; exact hx⟩
  refine (HT.out _ (by repeat (first | exact R2.out | refine Rdr.far ?_ NB.out EB.out _))).mono ?_
  rintro e W3 ⟨rfl, hR3, hK3⟩
  have KA3 : Aside0 (W3.heap[ga]? = some (.cells #[.string (⟨#[]⟩ : ByteArray), .bool false, .string (⟨#[]⟩ : ByteArray)] 64 (0, 0))) := Aside0.mk (hK3.blk (by repeat (first | exact KA2.out | refine blk_far ?_ AB.out _)) (Ne.symm NA.out))
  have KB3 : Aside0 (W3.heap[gb]? = some (.cells #[.string (⟨#[]⟩ : ByteArray), .bool dl, .string (⟨#[]⟩ : ByteArray)] 64 (0, 0))) := ⟨hK3.blk (by refine blk_put (cs := #[.string (⟨#[]⟩ : ByteArray), .bool dl, .string (⟨#[]⟩ : ByteArray)]) ?_ 2 _ rfl; refine blk_put (cs := #[.string (⟨#[]⟩ : ByteArray), .bool false, .string (⟨#[]⟩ : ByteArray)]) ?_ 1 _ rfl; refine blk_put (cs := #[.string (⟨#[]⟩ : ByteArray), .bool false, .string (⟨#[]⟩ : ByteArray)]) ?_ 0 _ rfl; exact Kb.out) (Ne.symm NB.out)⟩
  have KP3 : Aside0 (Kp W W3 g) := Aside0.mk (Kp.trans (by repeat (first | exact KP2.out | refine Kp.far ?_ SB.out _)) hK3)
  have R3 := Aside0.mk hR3
  clear hR3 hK3 hzb0 hzb1 hzb2 hfb0 hfb1 hfb2 Kb KA1 KA2 R1 R2 KP1 KP2 HT Ba Bb HDc
  have hzc0 : W3.cell? ⟨gb, 0, none⟩ = some (.string (⟨#[]⟩ : ByteArray)) := (blk_cell KB3.out 0).trans rfl; have hfc0 := blk_frozen KB3.out 0; have hzc1 : W3.cell? ⟨gb, 1, none⟩ = some (.bool dl) := (blk_cell KB3.out 1).trans rfl; have hfc1 := blk_frozen KB3.out 1; have hzc2 : W3.cell? ⟨gb, 2, none⟩ = some (.string (⟨#[]⟩ : ByteArray)) := (blk_cell KB3.out 2).trans rfl; have hfc2 := blk_frozen KB3.out 2
  have hzd0 : W3.cell? ⟨ga, 0, none⟩ = some (.string (⟨#[]⟩ : ByteArray)) := (blk_cell KA3.out 0).trans rfl; have hfd0 := blk_frozen KA3.out 0; have hzd1 : W3.cell? ⟨ga, 1, none⟩ = some (.bool false) := (blk_cell KA3.out 1).trans rfl; have hfd1 := blk_frozen KA3.out 1; have hzd2 : W3.cell? ⟨ga, 2, none⟩ = some (.string (⟨#[]⟩ : ByteArray)) := (blk_cell KA3.out 2).trans rfl; have hfd2 := blk_frozen KA3.out 2
  have hr0 := R3.out.err
  have hr1 := R3.out.frz 1
  have nba := NB.out
  have nbb := Ne.symm NB.out
  have naa := NA.out
  have nab := Ne.symm NA.out
  have abb := AB.out
  have aba := Ne.symm AB.out
  by_cases e2 : s2.2 = 0
  · have d2 : ((s2.2 : Int) == 0) = true := by rw [beq_iff_eq]; omega
    by_cases e3 : tk.toList = ([] : List UInt8)
    · have d3 : (tk.toList == ([] : List UInt8)) = true := beq_iff_eq.mpr e3
      have HK : Aside0 (keyS s1 = (tk, (s2.1, 21))) := ⟨by unfold keyS; rw [HS.out.2]; simp only; rw [if_pos ⟨e2, e3⟩]⟩
      clear e2 e3
      cases dl with
      | true =>
        have HW : Aside0 (writeS s = (⟨tk, true, (⟨#[]⟩ : ByteArray)⟩, (s2.1, 21))) := ⟨by unfold writeS; rw [HS.out.1]; simp only; rw [HK.out]; rfl⟩
        go_wp2_with fail
        refine bodyPost_ret (results_single rfl (.cell ga 64 #[.string tk, .bool true, .string (⟨#[]⟩ : ByteArray)] (0, 0) _ rfl (by refine blk_put (cs := #[.string tk, .bool true, .string (⟨#[]⟩ : ByteArray)]) ?_ 2 _ rfl; refine blk_put (cs := #[.string tk, .bool false, .string (⟨#[]⟩ : ByteArray)]) ?_ 1 _ rfl; refine blk_put (cs := #[.string (⟨#[]⟩ : ByteArray), .bool false, .string (⟨#[]⟩ : ByteArray)]) ?_ 0 _ rfl; repeat (first | exact KA3.out | refine blk_far ?_ AB.out _ | refine blk_far ?_ (Ne.symm NA.out) _)) Try.underlying64 rfl (by kernel_rfl) .nil)) rfl ?_
        rw [HW.out]
        exact ⟨rfl, (by repeat (first | exact R3.out | refine Rdr.far ?_ NA.out EA.out _ | refine Rdr.far ?_ NB.out EB.out _ | refine Rdr.set1 ?_ 21)), (by repeat (first | exact KP3.out | refine Kp.far ?_ SA.out _ | refine Kp.far ?_ SB.out _ | refine Kp.own ?_ _ _))⟩
      | false =>
        obtain ⟨tv, s3, hv⟩ : ∃ tv s3, textS 512 (s2.1, 21) = (tv, s3) := ⟨_, _, rfl⟩
        have HW : Aside0 (writeS s = (⟨tk, false, tv⟩, s3)) := ⟨by unfold writeS; rw [HS.out.1]; simp only; rw [HK.out]; simp only; rw [hv]; rfl⟩
        have HT : Aside0 (∀ W : World, Rdr w W g (s2.1, 21) → Calls Try.prog 56 #[.pointer (some ⟨g, 0, none⟩), .int .i64 512] W (Post w W g (.string tv) s3)) := ⟨fun W R => by have hx := text_calls 512 (by decide) (by decide) R BL.out.2.1 BL.out.2.2.2; rw [hv] at hx; exact hx⟩
        clear hv
        go_wp2_with fail
        refine (HT.out _ (by repeat (first | exact R3.out | refine Rdr.far ?_ NA.out EA.out _ | refine Rdr.far ?_ NB.out EB.out _ | refine Rdr.set1 ?_ 21))).mono ?_
        rintro e W4 ⟨rfl, hR4, hK4⟩
        have KA4 : Aside0 (W4.heap[ga]? = some (.cells #[.string (⟨#[]⟩ : ByteArray), .bool false, .string (⟨#[]⟩ : ByteArray)] 64 (0, 0))) := Aside0.mk (hK4.blk (by repeat (first | exact KA3.out | refine blk_far ?_ AB.out _ | refine blk_far ?_ (Ne.symm NA.out) _)) (Ne.symm NA.out))
        have KB4 : Aside0 (W4.heap[gb]? = some (.cells #[.string tk, .bool false, .string (⟨#[]⟩ : ByteArray)] 64 (0, 0))) := ⟨hK4.blk (by repeat (first | exact KB3.out | refine blk_far ?_ (Ne.symm NB.out) _ | refine blk_put (cs := #[.string (⟨#[]⟩ : ByteArray), .bool false, .string (⟨#[]⟩ : ByteArray)]) ?_ 0 _ rfl)) (Ne.symm NB.out)⟩
        have KP4 : Aside0 (Kp W W4 g) := Aside0.mk (Kp.trans (by repeat (first | exact KP3.out | refine Kp.far ?_ SA.out _ | refine Kp.far ?_ SB.out _ | refine Kp.own ?_ _ _)) hK4)
        have R4 := Aside0.mk hR4
        clear hR4 hK4
        have hze0 : W4.cell? ⟨gb, 0, none⟩ = some (.string tk) := (blk_cell KB4.out 0).trans rfl; have hfe0 := blk_frozen KB4.out 0; have hze1 : W4.cell? ⟨gb, 1, none⟩ = some (.bool false) := (blk_cell KB4.out 1).trans rfl; have hfe1 := blk_frozen KB4.out 1; have hze2 : W4.cell? ⟨gb, 2, none⟩ = some (.string (⟨#[]⟩ : ByteArray)) := (blk_cell KB4.out 2).trans rfl; have hfe2 := blk_frozen KB4.out 2
        have hzk0 : W4.cell? ⟨ga, 0, none⟩ = some (.string (⟨#[]⟩ : ByteArray)) := (blk_cell KA4.out 0).trans rfl; have hfk0 := blk_frozen KA4.out 0; have hzk1 : W4.cell? ⟨ga, 1, none⟩ = some (.bool false) := (blk_cell KA4.out 1).trans rfl; have hfk1 := blk_frozen KA4.out 1; have hzk2 : W4.cell? ⟨ga, 2, none⟩ = some (.string (⟨#[]⟩ : ByteArray)) := (blk_cell KA4.out 2).trans rfl; have hfk2 := blk_frozen KA4.out 2
        go_wp2_with fail
        refine bodyPost_ret (results_single rfl (.cell ga 64 #[.string tk, .bool false, .string tv] (0, 0) _ rfl (by refine blk_put (cs := #[.string tk, .bool false, .string (⟨#[]⟩ : ByteArray)]) ?_ 2 _ rfl; refine blk_put (cs := #[.string tk, .bool false, .string (⟨#[]⟩ : ByteArray)]) ?_ 1 _ rfl; refine blk_put (cs := #[.string (⟨#[]⟩ : ByteArray), .bool false, .string (⟨#[]⟩ : ByteArray)]) ?_ 0 _ rfl; repeat (first | exact KA4.out | refine blk_far ?_ AB.out _ | refine blk_far ?_ (Ne.symm NA.out) _)) Try.underlying64 rfl (by kernel_rfl) .nil)) rfl ?_
        rw [HW.out]
        exact ⟨rfl, (by repeat (first | exact R4.out | refine Rdr.far ?_ NA.out EA.out _ | refine Rdr.far ?_ NB.out EB.out _ | refine Rdr.set1 ?_ 21)), (by repeat (first | exact KP4.out | refine Kp.far ?_ SA.out _ | refine Kp.far ?_ SB.out _ | refine Kp.own ?_ _ _))⟩
    · have d3 : (tk.toList == ([] : List UInt8)) = false := beq_eq_false_iff_ne.mpr e3
      have HK : Aside0 (keyS s1 = (tk, s2)) := ⟨by unfold keyS; rw [HS.out.2]; simp only; rw [if_neg (fun h => e3 h.2)]⟩
      clear e2
      cases dl with
      | true =>
        have HW : Aside0 (writeS s = (⟨tk, true, (⟨#[]⟩ : ByteArray)⟩, s2)) := ⟨by unfold writeS; rw [HS.out.1]; simp only; rw [HK.out]; rfl⟩
        go_wp2_with fail
        refine bodyPost_ret (results_single rfl (.cell ga 64 #[.string tk, .bool true, .string (⟨#[]⟩ : ByteArray)] (0, 0) _ rfl (by refine blk_put (cs := #[.string tk, .bool true, .string (⟨#[]⟩ : ByteArray)]) ?_ 2 _ rfl; refine blk_put (cs := #[.string tk, .bool false, .string (⟨#[]⟩ : ByteArray)]) ?_ 1 _ rfl; refine blk_put (cs := #[.string (⟨#[]⟩ : ByteArray), .bool false, .string (⟨#[]⟩ : ByteArray)]) ?_ 0 _ rfl; repeat (first | exact KA3.out | refine blk_far ?_ AB.out _ | refine blk_far ?_ (Ne.symm NA.out) _)) Try.underlying64 rfl (by kernel_rfl) .nil)) rfl ?_
        rw [HW.out]
        exact ⟨rfl, (by repeat (first | exact R3.out | refine Rdr.far ?_ NA.out EA.out _ | refine Rdr.far ?_ NB.out EB.out _ | refine Rdr.set1 ?_ 21)), (by repeat (first | exact KP3.out | refine Kp.far ?_ SA.out _ | refine Kp.far ?_ SB.out _ | refine Kp.own ?_ _ _))⟩
      | false =>
        obtain ⟨tv, s3, hv⟩ : ∃ tv s3, textS 512 s2 = (tv, s3) := ⟨_, _, rfl⟩
        have HW : Aside0 (writeS s = (⟨tk, false, tv⟩, s3)) := ⟨by unfold writeS; rw [HS.out.1]; simp only; rw [HK.out]; simp only; rw [hv]; rfl⟩
        have HT : Aside0 (∀ W : World, Rdr w W g s2 → Calls Try.prog 56 #[.pointer (some ⟨g, 0, none⟩), .int .i64 512] W (Post w W g (.string tv) s3)) := ⟨fun W R => by have hx := text_calls 512 (by decide) (by decide) R BL.out.2.1 BL.out.2.2.2; rw [hv] at hx; exact hx⟩
        clear hv
        go_wp2_with fail
        refine (HT.out _ (by repeat (first | exact R3.out | refine Rdr.far ?_ NA.out EA.out _ | refine Rdr.far ?_ NB.out EB.out _ | refine Rdr.set1 ?_ 21))).mono ?_
        rintro e W4 ⟨rfl, hR4, hK4⟩
        have KA4 : Aside0 (W4.heap[ga]? = some (.cells #[.string (⟨#[]⟩ : ByteArray), .bool false, .string (⟨#[]⟩ : ByteArray)] 64 (0, 0))) := Aside0.mk (hK4.blk (by repeat (first | exact KA3.out | refine blk_far ?_ AB.out _ | refine blk_far ?_ (Ne.symm NA.out) _)) (Ne.symm NA.out))
        have KB4 : Aside0 (W4.heap[gb]? = some (.cells #[.string tk, .bool false, .string (⟨#[]⟩ : ByteArray)] 64 (0, 0))) := ⟨hK4.blk (by repeat (first | exact KB3.out | refine blk_far ?_ (Ne.symm NB.out) _ | refine blk_put (cs := #[.string (⟨#[]⟩ : ByteArray), .bool false, .string (⟨#[]⟩ : ByteArray)]) ?_ 0 _ rfl)) (Ne.symm NB.out)⟩
        have KP4 : Aside0 (Kp W W4 g) := Aside0.mk (Kp.trans (by repeat (first | exact KP3.out | refine Kp.far ?_ SA.out _ | refine Kp.far ?_ SB.out _ | refine Kp.own ?_ _ _)) hK4)
        have R4 := Aside0.mk hR4
        clear hR4 hK4
        have hze0 : W4.cell? ⟨gb, 0, none⟩ = some (.string tk) := (blk_cell KB4.out 0).trans rfl; have hfe0 := blk_frozen KB4.out 0; have hze1 : W4.cell? ⟨gb, 1, none⟩ = some (.bool false) := (blk_cell KB4.out 1).trans rfl; have hfe1 := blk_frozen KB4.out 1; have hze2 : W4.cell? ⟨gb, 2, none⟩ = some (.string (⟨#[]⟩ : ByteArray)) := (blk_cell KB4.out 2).trans rfl; have hfe2 := blk_frozen KB4.out 2
        have hzk0 : W4.cell? ⟨ga, 0, none⟩ = some (.string (⟨#[]⟩ : ByteArray)) := (blk_cell KA4.out 0).trans rfl; have hfk0 := blk_frozen KA4.out 0; have hzk1 : W4.cell? ⟨ga, 1, none⟩ = some (.bool false) := (blk_cell KA4.out 1).trans rfl; have hfk1 := blk_frozen KA4.out 1; have hzk2 : W4.cell? ⟨ga, 2, none⟩ = some (.string (⟨#[]⟩ : ByteArray)) := (blk_cell KA4.out 2).trans rfl; have hfk2 := blk_frozen KA4.out 2
        go_wp2_with fail
        refine bodyPost_ret (results_single rfl (.cell ga 64 #[.string tk, .bool false, .string tv] (0, 0) _ rfl (by refine blk_put (cs := #[.string tk, .bool false, .string (⟨#[]⟩ : ByteArray)]) ?_ 2 _ rfl; refine blk_put (cs := #[.string tk, .bool false, .string (⟨#[]⟩ : ByteArray)]) ?_ 1 _ rfl; refine blk_put (cs := #[.string (⟨#[]⟩ : ByteArray), .bool false, .string (⟨#[]⟩ : ByteArray)]) ?_ 0 _ rfl; repeat (first | exact KA4.out | refine blk_far ?_ AB.out _ | refine blk_far ?_ (Ne.symm NA.out) _)) Try.underlying64 rfl (by kernel_rfl) .nil)) rfl ?_
        rw [HW.out]
        exact ⟨rfl, (by repeat (first | exact R4.out | refine Rdr.far ?_ NA.out EA.out _ | refine Rdr.far ?_ NB.out EB.out _ | refine Rdr.set1 ?_ 21)), (by repeat (first | exact KP4.out | refine Kp.far ?_ SA.out _ | refine Kp.far ?_ SB.out _ | refine Kp.own ?_ _ _))⟩
  · have d2 : ((s2.2 : Int) == 0) = false := by rw [beq_eq_false_iff_ne]; omega
    have HK : Aside0 (keyS s1 = (tk, s2)) := ⟨by unfold keyS; rw [HS.out.2]; simp only; rw [if_neg (fun h => e2 h.1)]⟩
    clear e2
    cases dl with
    | true =>
      have HW : Aside0 (writeS s = (⟨tk, true, (⟨#[]⟩ : ByteArray)⟩, s2)) := ⟨by unfold writeS; rw [HS.out.1]; simp only; rw [HK.out]; rfl⟩
      go_wp2_with fail
      refine bodyPost_ret (results_single rfl (.cell ga 64 #[.string tk, .bool true, .string (⟨#[]⟩ : ByteArray)] (0, 0) _ rfl (by refine blk_put (cs := #[.string tk, .bool true, .string (⟨#[]⟩ : ByteArray)]) ?_ 2 _ rfl; refine blk_put (cs := #[.string tk, .bool false, .string (⟨#[]⟩ : ByteArray)]) ?_ 1 _ rfl; refine blk_put (cs := #[.string (⟨#[]⟩ : ByteArray), .bool false, .string (⟨#[]⟩ : ByteArray)]) ?_ 0 _ rfl; repeat (first | exact KA3.out | refine blk_far ?_ AB.out _ | refine blk_far ?_ (Ne.symm NA.out) _)) Try.underlying64 rfl (by kernel_rfl) .nil)) rfl ?_
      rw [HW.out]
      exact ⟨rfl, (by repeat (first | exact R3.out | refine Rdr.far ?_ NA.out EA.out _ | refine Rdr.far ?_ NB.out EB.out _ | refine Rdr.set1 ?_ 21)), (by repeat (first | exact KP3.out | refine Kp.far ?_ SA.out _ | refine Kp.far ?_ SB.out _ | refine Kp.own ?_ _ _))⟩
    | false =>
      obtain ⟨tv, s3, hv⟩ : ∃ tv s3, textS 512 s2 = (tv, s3) := ⟨_, _, rfl⟩
      have HW : Aside0 (writeS s = (⟨tk, false, tv⟩, s3)) := ⟨by unfold writeS; rw [HS.out.1]; simp only; rw [HK.out]; simp only; rw [hv]; rfl⟩
      have HT : Aside0 (∀ W : World, Rdr w W g s2 → Calls Try.prog 56 #[.pointer (some ⟨g, 0, none⟩), .int .i64 512] W (Post w W g (.string tv) s3)) := ⟨fun W R => by have hx := text_calls 512 (by decide) (by decide) R BL.out.2.1 BL.out.2.2.2; rw [hv] at hx; exact hx⟩
      clear hv
      go_wp2_with fail
      refine (HT.out _ (by repeat (first | exact R3.out | refine Rdr.far ?_ NA.out EA.out _ | refine Rdr.far ?_ NB.out EB.out _ | refine Rdr.set1 ?_ 21))).mono ?_
      rintro e W4 ⟨rfl, hR4, hK4⟩
      have KA4 : Aside0 (W4.heap[ga]? = some (.cells #[.string (⟨#[]⟩ : ByteArray), .bool false, .string (⟨#[]⟩ : ByteArray)] 64 (0, 0))) := Aside0.mk (hK4.blk (by repeat (first | exact KA3.out | refine blk_far ?_ AB.out _ | refine blk_far ?_ (Ne.symm NA.out) _)) (Ne.symm NA.out))
      have KB4 : Aside0 (W4.heap[gb]? = some (.cells #[.string tk, .bool false, .string (⟨#[]⟩ : ByteArray)] 64 (0, 0))) := ⟨hK4.blk (by repeat (first | exact KB3.out | refine blk_far ?_ (Ne.symm NB.out) _ | refine blk_put (cs := #[.string (⟨#[]⟩ : ByteArray), .bool false, .string (⟨#[]⟩ : ByteArray)]) ?_ 0 _ rfl)) (Ne.symm NB.out)⟩
      have KP4 : Aside0 (Kp W W4 g) := Aside0.mk (Kp.trans (by repeat (first | exact KP3.out | refine Kp.far ?_ SA.out _ | refine Kp.far ?_ SB.out _ | refine Kp.own ?_ _ _)) hK4)
      have R4 := Aside0.mk hR4
      clear hR4 hK4
      have hze0 : W4.cell? ⟨gb, 0, none⟩ = some (.string tk) := (blk_cell KB4.out 0).trans rfl; have hfe0 := blk_frozen KB4.out 0; have hze1 : W4.cell? ⟨gb, 1, none⟩ = some (.bool false) := (blk_cell KB4.out 1).trans rfl; have hfe1 := blk_frozen KB4.out 1; have hze2 : W4.cell? ⟨gb, 2, none⟩ = some (.string (⟨#[]⟩ : ByteArray)) := (blk_cell KB4.out 2).trans rfl; have hfe2 := blk_frozen KB4.out 2
      have hzk0 : W4.cell? ⟨ga, 0, none⟩ = some (.string (⟨#[]⟩ : ByteArray)) := (blk_cell KA4.out 0).trans rfl; have hfk0 := blk_frozen KA4.out 0; have hzk1 : W4.cell? ⟨ga, 1, none⟩ = some (.bool false) := (blk_cell KA4.out 1).trans rfl; have hfk1 := blk_frozen KA4.out 1; have hzk2 : W4.cell? ⟨ga, 2, none⟩ = some (.string (⟨#[]⟩ : ByteArray)) := (blk_cell KA4.out 2).trans rfl; have hfk2 := blk_frozen KA4.out 2
      go_wp2_with fail
      refine bodyPost_ret (results_single rfl (.cell ga 64 #[.string tk, .bool false, .string tv] (0, 0) _ rfl (by refine blk_put (cs := #[.string tk, .bool false, .string (⟨#[]⟩ : ByteArray)]) ?_ 2 _ rfl; refine blk_put (cs := #[.string tk, .bool false, .string (⟨#[]⟩ : ByteArray)]) ?_ 1 _ rfl; refine blk_put (cs := #[.string (⟨#[]⟩ : ByteArray), .bool false, .string (⟨#[]⟩ : ByteArray)]) ?_ 0 _ rfl; repeat (first | exact KA4.out | refine blk_far ?_ AB.out _ | refine blk_far ?_ (Ne.symm NA.out) _)) Try.underlying64 rfl (by kernel_rfl) .nil)) rfl ?_
      rw [HW.out]
      exact ⟨rfl, (by repeat (first | exact R4.out | refine Rdr.far ?_ NA.out EA.out _ | refine Rdr.far ?_ NB.out EB.out _ | refine Rdr.set1 ?_ 21)), (by repeat (first | exact KP4.out | refine Kp.far ?_ SA.out _ | refine Kp.far ?_ SB.out _ | refine Kp.own ?_ _ _))⟩
end Go.Proofs.Ytnamanalacjhnaa.Gt
