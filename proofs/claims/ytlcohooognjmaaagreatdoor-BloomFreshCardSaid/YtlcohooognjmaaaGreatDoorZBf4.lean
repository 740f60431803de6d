/- BloomFresh returns true, and leaves its arguments as they were, for every input; the table of four bits' sums reads as the program's text lays it (tied by the card). -/
import Derived.Test.YtlcohooognjmaaaGreatDoorZBf2
import Derived.Test.YtlcohooognjmaaaGreatDoorZBf3
import Derived.Test.YtlcohooognjmaaaGreatDoorRows
import Derived.WalkKit
import Derived.ProofKit
import Derived.OpenShut
import Derived.SliceStrings
import Derived.Test.YtlcohooognjmaaaGreatDoorZBf1
import Derived.Test.YtlcohooognjmaaaGreatDoorCards
import Derived.Test.YtlcohooognjmaaaGreatDoorTie
import Derived.Stop.LaidErr
import Derived.ShutString
import Derived.ChangeOld
import Derived.Below
import Derived.SizedLaws
import Derived.Deep.DeepHandedRow
import Derived.Lib.LaidTab
import Derived.JoinedCond
import Derived.Deep.CondSized
namespace Go.Proofs.YtlcohooognjmaaaGreatDoor.BloomFresh
open Go.RowKit Go.Proofs.YtlcohooognjmaaaGreatDoorW.PrintWords Go.Proofs.YtlcohooognjmaaaGreatDoor.Own Go.Proofs.YtlcohooognjmaaaGreatDoor.G Go.Proofs.YtlcohooognjmaaaGreatDoor.Bl Go.Proofs.YtlcohooognjmaaaGreatDoor.BlW Go.Proofs.YtlcohooognjmaaaGreatDoor.QBl
open Go.Proofs.YtlcohooognjmaaaGreatDoor.Kb (Book newB zeroLit kB Tg BytesPost LB)
set_option linter.unusedVariables false
theorem text_l0 (l : List ByteArray) (hl : l.length ≤ 9223372036854775807) : ∀ (d i : Nat), i + d = l.length → screelaw8_sameTexts.l0 (d + 1) l l (i : Int) = some true
  | 0, i, h => by
    unfold screelaw8_sameTexts.l0
    rw [if_neg (by omega)]
  | d + 1, i, h => by
    unfold screelaw8_sameTexts.l0
    rw [if_pos (by omega), if_pos (by omega), if_pos (by omega), if_pos rfl]
    have e : wrap64 ((i : Int) + 1) = ((i + 1 : Nat) : Int) := by unfold wrap64; omega
    rw [e]
    exact text_l0 l hl d (i + 1) (by omega)
theorem text_f (l : List ByteArray) (hl : l.length ≤ 9223372036854775807) : ∃ k, screelaw8_sameTexts.f k l l = some true :=
  ⟨l.length + 1, by unfold screelaw8_sameTexts.f; rw [if_pos rfl]; exact text_l0 l hl l.length 0 (by omega)⟩
theorem cTexts {w : World} {A1 A2 : Option Addr} {n1 c1 n2 c2 : Nat} {l : List ByteArray} (h1 : Rd Kd.string w A1 n1 c1 l) (h2 : Rd Kd.string w A2 n2 c2 l) : Calls Tryz.prog 10 #[.slice A1 n1 c1, .slice A2 n2 c2] w (Says w true) := by
  obtain ⟨e1, a2, a3⟩ := h1
  obtain ⟨e2, b2, b3⟩ := h2
  subst e1
  subst e2
  obtain ⟨k, hk⟩ := text_f l a3.2.1
  exact (screelaw8_sameTexts.calls k A1 c1 l A2 c2 l true w a3 a2 b3 b2 hk).mono fun _ _ h => Says.of h
/-- The keys' copy, the filter wanted, and the book beside one another; the rows' blocks are below D. -/
structure Fb (W : World) (τ : Nat → Nat) (gb N b D : Nat) (vk vw : Value) (ks : List ByteArray) (f : List Int) : Prop where
  book : Book W τ gb gb N
  kept : Kd.R Kd.string 9 W b (fun k => τ k = 0 ∧ k < D) vk ks
  want : Kd.R (Kd.int .u8) 5 W b (fun k => τ k = 0 ∧ k < D) vw f
theorem Book.size {W : World} {τ : Nat → Nat} {base g N : Nat} (h : Book W τ base g N) : base ≤ W.heap.size := by
  obtain ⟨M, f, S, I, ws, os, hB, hn⟩ := h
  exact hB.inv.size
section
variable {W W' : World} {τ τ' : Nat → Nat} {gb N b D D' : Nat} {vk vw u : Value} {ks : List ByteArray} {f : List Int}
theorem Fb.below (h : Fb W τ gb N b D vk vw ks f) (hb : Below W.heap.size W W') : Fb W' τ gb N b D vk vw ks f := ⟨h.book.below hb, Kd.R_below h.kept hb, Kd.R_below h.want hb⟩
theorem Fb.now (h : Fb W τ gb N b D vk vw ks f) : Fb W τ gb N b W.heap.size vk vw ks f := ⟨h.book, Kd.R_mono (Kd.R_bound h.kept) (fun k hk => ⟨hk.1.1, hk.2.2.1⟩), Kd.R_mono (Kd.R_bound h.want) (fun k hk => ⟨hk.1.1, hk.2.2.1⟩)⟩
theorem R_hand {α : Type} {d : Kd α} {e : Nat} {v : Value} {l : List α} {ok : Nat → Prop} (h : Kd.R d e W b (fun k => τ k = 0 ∧ ok k) v l) (hk : ∀ k, k < W.heap.size → τ k = 0 → some k ≠ u.ownBlock → W'.heap[k]? = W.heap[k]? ∧ τ' k = 0) (hne : ∀ k, ok k → some k ≠ u.ownBlock) : Kd.R d e W' b (fun k => τ' k = 0 ∧ ok k) v l := by
  have hb := Kd.R_bound h
  refine Kd.R_mono (Kd.R_step hb (fun k hk' hlt => (hk k hlt hk'.1.1 (hne k hk'.1.2)).1)) (fun k hk' => ⟨(hk k hk'.2.2.1 hk'.1.1 (hne k hk'.1.2)).2, hk'.1.2⟩)
theorem Fb.hand (h : Fb W τ gb N b D vk vw ks f) (hB : Book W' τ' gb gb (N + 2)) (hk : ∀ k, k < W.heap.size → τ k = 0 → some k ≠ u.ownBlock → W'.heap[k]? = W.heap[k]? ∧ τ' k = 0) (hu : ∀ k, u.ownBlock = some k → D ≤ k) : Fb W' τ' gb (N + 2) b D vk vw ks f :=
  ⟨hB, R_hand h.kept hk (fun k hlt e => by have := hu k e.symm; omega), R_hand h.want hk (fun k hlt e => by have := hu k e.symm; omega)⟩
end
theorem make_small {b : Int} (ks : List ByteArray) : (makeL ks b).length ≤ 131073 := by
  unfold makeL
  split
  · simp
  · have := places_ge ks.length (min b.toNat 16)
    rw [make_len]; omega
set_option maxHeartbeats 16000000 in
set_option maxRecDepth 100000 in
theorem walk_ (A0 : Option Addr) (c0 : Nat) (l0 : List ByteArray) (b : Int) (w : World) (hr0 : Rd Kd.string w A0 l0.length c0 l0) (hn : l0.length ≤ 9223372036854775807) (hs : ∀ s ∈ l0, s.size ≤ 9223372036854775807) (hb1 : -9223372036854775808 ≤ b) (hb2 : b ≤ 9223372036854775807) (hT : GT w) :
    Calls Tryz.prog 3 #[.slice A0 l0.length c0, .int .i64 b] w fun e w' => e = .returned (.bool true) ∧ Below w.heap.size w w' := by
  have HR := Aside0.mk hr0
  have HR0 := Aside0.mk hr0
  have HS := Aside0.mk hs
  have HT : Aside0 (Tab w) := ⟨hT⟩
  have HX1 := Aside0.mk hb1
  have HX2 := Aside0.mk hb2
  clear hr0 hs hT hb1 hb2
  go_enter Tryz.func3, Tryz.ntmps3
  go_wp2_with fail
  refine (cKnown HT.out).mono ?_
  rintro e w1 ⟨rfl, hb⟩
  have T1 := Aside0.mk (HT.out.step hb)
  have B1 := Aside0.mk hb
  have R1 := Aside0.mk (HR.out.step hb)
  clear hb HR
  go_wp2_with fail
  refine (cSome R1.out (by omega)).mono ?_
  rintro e w2 ⟨m, rfl, hm4, hmn, hrd, hw2⟩
  rw [hw2] at hrd ⊢
  clear hw2 w2
  obtain ⟨ks, hks⟩ : ∃ ks, l0.take m = ks := ⟨_, rfl⟩
  rw [hks] at hrd
  have R2 := Aside0.mk hrd
  have HKS : Aside0 (∀ s ∈ ks, s.size ≤ 9223372036854775807) := ⟨fun s hs => HS.out s (List.mem_of_mem_take (by rw [hks]; exact hs))⟩
  have HKL := Aside0.mk hrd.1
  have R0 : Aside0 (Rd Kd.string w A0 m c0 ks) := ⟨by have z := HR0.out.take m hmn; rw [hks] at z; exact z⟩
  have HBs := Aside0.mk B1.out.size
  clear hrd hks R1 HS
  go_wp2_with ((with_reducible refine gate_builtin (b := .append) (xs := #[.const (.slice none 0 0), .tmp 15]) rfl ?_); at_builtin; go_must (refine Kd.R_append_rows Kd.string (w0 := w) w.heap.size rfl (.const (.slice none 0 0)) (.tmp 15) 22 9 (.string ByteArray.empty) 16 rfl Tryz.underlying22 infoS rfl (by decide) (by omega) (.slice none 0 0) ([] : List ByteArray) ks A0 m c0 (fun _ => True) (fun _ => False) rfl rfl (Kd.R_nil _ _ _ _ _) R2.out.2.2 (fun _ _ h => h) (fun _ h => h.elim) (fun _ _ => trivial) B1.out HBs.out (by simp; omega) ?_); intro v3 w3 ho hb hg hat; (obtain ⟨A3, n3, c3, ev3, HN3⟩ := Kb.R_sliceN ho); subst ev3; (have HK3 := Aside0.mk ho); (have B3 := Aside0.mk hb); (have hb13 : Below w1.heap.size w1 w3 := ⟨hg.os, hg.tape, hg.output, hg.size, fun k hk => hg.block k hk (by simp [Value.ownBlock])⟩); (have T3 := Aside0.mk (T1.out.step hb13)); (have R3 := Aside0.mk (R2.out.step hb13)); clear ho hb hg hat hb13 T1 B1 R2 HBs)
  refine (cMake R3.out (by omega) HKS.out HX1.out HX2.out T3.out).mono ?_
  rintro e w4 ⟨Af, nf, cf, f, rfl, hf, hfd, -, hb⟩
  have hfl : nf ≤ 131073 := by rw [← hfd.1, hf]; exact make_small ks
  have HF := Aside0.mk hf
  have F4 := Aside0.mk hfd
  have T4 := Aside0.mk (T3.out.step hb)
  have R4 := Aside0.mk (R3.out.step hb)
  have B4 := Aside0.mk (below_step B3.out hb)
  have HK4 := Aside0.mk (Kd.R_below HK3.out hb)
  have HBs := Aside0.mk B4.out.size
  clear hb hf hfd T3 R3 B3 HK3
  go_wp2_with (first
    | ((with_reducible refine gate_builtin (b := .append) (xs := #[.const (.slice none 0 0), .tmp 19]) rfl ?_); at_builtin; go_must (refine Kd.R_append_rows (Kd.int .u8) (w0 := w) w.heap.size rfl (.const (.slice none 0 0)) (.tmp 19) 25 5 (.int .u8 0) 1 rfl Tryz.underlying25 Kb.infoB rfl (by decide) (by omega) (.slice none 0 0) ([] : List Int) f Af nf cf (fun _ => True) (fun _ => False) rfl rfl (Kd.R_nil _ _ _ _ _) F4.out.2.2 (fun _ _ h => h) (fun _ h => h.elim) (fun _ _ => trivial) B4.out HBs.out (by simp; omega) ?_); intro v5 w5 ho hb hg hat; (obtain ⟨A5, n5, c5, ev5, HN5⟩ := Kb.R_sliceN ho); subst ev5; (have HW5 := Aside0.mk ho); (have B5 := Aside0.mk hb); (have hb45 : Below w4.heap.size w4 w5 := ⟨hg.os, hg.tape, hg.output, hg.size, fun k hk => hg.block k hk (by simp [Value.ownBlock])⟩); (have T5 := Aside0.mk (T4.out.step hb45)); (have R5 := Aside0.mk (R4.out.step hb45)); (have HK5 := Aside0.mk (Kd.R_below HK4.out hb45)); clear ho hb hg hat hb45 T4 B4 R4 HK4 HBs)
    | ((with_reducible refine gate_dst (N := 21) rfl ?_); refine Kd.event_run (v := .agg zeroLit) (w1 := w5) rfl (by simp [execOp, Kb.run_build_book]) ?_)
    | ((with_reducible refine gate_dst (N := 22) rfl ?_); refine box_event ?hg (N := 22) ?hd (cs := zeroLit) (t := 49) ?hr ?_; (case hd => rfl); (case hg => rfl); (case hr => (have hcb := Kb.cells_book; first | (go_simp; done) | (go_simp; rfl))); intro gb hgb w6 hbox hb6; (have HFb : Aside0 (Fb w6 (newB gb) gb 0 w.heap.size w6.heap.size (.slice A3 n3 c3) (.slice A5 n5 c5) ks f) := ⟨⟨Kb.Book.begin hbox (Nat.le_refl _), Kd.R_mono (Kd.R_bound (Kd.R_below (Kd.R_mono (Kd.R_bound HK5.out) (fun _ h => h.2.2.1)) hb6)) (fun k hk => ⟨if_neg (by have := hk.1; omega), hk.2.2.1⟩), Kd.R_mono (Kd.R_bound (Kd.R_below (Kd.R_mono (Kd.R_bound HW5.out) (fun _ h => h.2.2.1)) hb6)) (fun k hk => ⟨if_neg (by have := hk.1; omega), hk.2.2.1⟩)⟩⟩); (have HGs : Aside0 (w.heap.size ≤ gb) := ⟨by rw [hgb]; exact B5.out.size⟩); (have B6 := Aside0.mk (below_step B5.out hb6)); (have T6 := Aside0.mk (T5.out.step hb6)); (have R6 := Aside0.mk (R5.out.step hb6)); clear hgb hbox hb6 B5 T5 R5 HK5 HW5))
  go_loopw [8] (fun s8 wr => ∃ (k N : Nat) (τ : Nat → Nat), s8 = .int .i64 (k : Int) ∧ k ≤ 4 ∧ N ≤ 4 * k ∧ Aside0 (Fb wr τ gb N w.heap.size wr.heap.size (.slice A3 n3 c3) (.slice A5 n5 c5) ks f) ∧ Aside0 (Below w.heap.size w wr)) (fun s8 _ => 4 - (intOf s8).toNat)
  case atStart => exact ⟨0, 0, _, rfl, Nat.zero_le _, Nat.zero_le _, HFb, B6⟩
  case round =>
    clear HFb B6 R6 T6
    obtain ⟨k, N, τ, rfl, hk, hN, HFb, HB⟩ := hrel
    have HTr : Aside0 (∀ W : World, Below w.heap.size w W → Tab W) := ⟨fun W h => HT.out.step h⟩
    by_cases hlt : k < 4
    · have HM1 := Aside0.mk (cMake (R0.out.step HB.out) (by omega) HKS.out HX1.out HX2.out (HTr.out _ HB.out))
      go_wp2_with fail
      refine HM1.out.mono ?_
      rintro e w1 ⟨Ax, nx, cx, fx, rfl, hfx, hxd, hxR, hbx⟩
      rw [← HF.out] at hfx
      rw [hfx] at hxd hxR
      clear hfx
      have hww : wr.heap.size ≤ w1.heap.size := hbx.size
      have HB1 := Aside0.mk (below_step HB.out hbx)
      have HF1 := Aside0.mk (HFb.out.below hbx)
      have HXR : Aside0 (Kd.R (Kd.int .u8) 5 w1 gb (fun j => τ j = 0 ∧ wr.heap.size ≤ j ∧ j < w1.heap.size) (.slice Ax nx cx) f) := ⟨Kd.R_lower (Kd.R_mono (Kd.R_bound hxR) (fun j hj => ⟨HFb.out.book.new j hj.2.1, hj.2.1, hj.2.2.1⟩)) (Book.size HFb.out.book)⟩
      have HM2 := Aside0.mk (cMake (R0.out.step HB1.out) (by omega) HKS.out HX1.out HX2.out (HTr.out _ HB1.out))
      have HXd := Aside0.mk hxd
      clear hxd hxR hbx HM1
      go_wp2_with fail
      refine HM2.out.mono ?_
      rintro e w2 ⟨Ay, ny, cy, fy, rfl, hfy, hyd, hyR, hby⟩
      rw [← HF.out] at hfy
      rw [hfy] at hyd hyR
      clear hfy
      have HB2 := Aside0.mk (below_step HB1.out hby)
      have HF2 := Aside0.mk (HF1.out.below hby)
      have HXR2 := Aside0.mk (Kd.R_below HXR.out hby)
      have HYR : Aside0 (Kd.R (Kd.int .u8) 5 w2 gb (fun j => τ j = 0 ∧ w1.heap.size ≤ j) (.slice Ay ny cy) f) := ⟨Kd.R_lower (Kd.R_mono (Kd.R_bound hyR) (fun j hj => ⟨HF1.out.book.new j hj.2.1, hj.2.1⟩)) (Book.size HF1.out.book)⟩
      have HXd2 := Aside0.mk (HXd.out.step hby)
      have HS1 := Aside0.mk (cSame HXd2.out (Rd.of_own HF2.out.want) rfl)
      have HYd := Aside0.mk hyd
      clear hyd hyR hby HM2 HXd HXR HF1 HB1
      go_wp2_with fail
      refine HS1.out.mono ?_
      rintro e w3 ⟨rfl, hb3⟩
      have HB3 := Aside0.mk (below_step HB2.out hb3)
      have HF3 := Aside0.mk (HF2.out.below hb3)
      have HXR3 := Aside0.mk (Kd.R_below HXR2.out hb3)
      have HYR3 := Aside0.mk (Kd.R_below HYR.out hb3)
      have HYd3 := Aside0.mk (HYd.out.step hb3)
      have HS2 := Aside0.mk (cSame HYd3.out (Rd.of_own HF3.out.want) rfl)
      clear hb3 HS1 HB2 HF2 HXR2 HYR HYd HXd2
      go_wp2_with fail
      refine HS2.out.mono ?_
      rintro e w4 ⟨rfl, hb4⟩
      have HB4 := Aside0.mk (below_step HB3.out hb4)
      have HF4 := Aside0.mk (HF3.out.below hb4)
      have HXR4 := Aside0.mk (Kd.R_below HXR3.out hb4)
      have HYR4 := Aside0.mk (Kd.R_below HYR3.out hb4)
      have HBk := Aside0.mk (fun mark : Int => Kb.bytes_calls (mark := mark) HF4.out.book (by omega) (Kd.R_mono HXR4.out (fun _ hj => hj.1)) (by rw [HF.out]; have z := make_small (b := b) ks; unfold LB; omega))
      clear hb4 HS2 HB3 HF3 HXR3 HYR3 HYd3
      go_wp2_with fail
      refine (HBk.out _).mono ?_
      rintro e w5 ⟨rfl, τ', hBk, hbel, hkk⟩
      have HF5 := Aside0.mk (HF4.out.hand hBk hkk (fun j hj => (HXR4.out.1 j hj).2.1))
      have HYR5 := Aside0.mk (R_hand (ok := fun j => w1.heap.size ≤ j) HYR4.out hkk (fun j hj e => by have z := (HXR4.out.1 j e.symm).2.2; omega))
      have HB5 : Aside0 (Below w.heap.size w w5) := ⟨HB4.out.trans (hbel.mono HGs.out)⟩
      have HS3 := Aside0.mk (cSame (Rd.of_own HYR5.out) (Rd.of_own HF5.out.want) rfl)
      clear hBk hbel hkk HBk HF4 HXR4 HYR4 HB4
      go_wp2_with fail
      refine HS3.out.mono ?_
      rintro e w6 ⟨rfl, hb6⟩
      have HB6 := Aside0.mk (below_step HB5.out hb6)
      have HF6 := Aside0.mk (HF5.out.below hb6)
      have HYR6 := Aside0.mk (Kd.R_below HYR5.out hb6)
      have HHo := Aside0.mk (HF6.out.book.hold (by omega))
      clear hb6 HS3 HB5 HF5 HYR5
      go_wp2_with fail
      refine HHo.out.mono ?_
      rintro e w7 ⟨rfl, nd, hnd⟩
      have hb7 : Below w6.heap.size w6 w7 := by rw [hnd]; exact pw_below_drewN (Below.refl _ _) nd
      have HB7 := Aside0.mk (below_step HB6.out hb7)
      have HF7 := Aside0.mk (HF6.out.below hb7)
      have HYR7 := Aside0.mk (Kd.R_below HYR6.out hb7)
      have HBk := Aside0.mk (fun mark : Int => Kb.bytes_calls (mark := mark) HF7.out.book (by omega) (Kd.R_mono HYR7.out (fun _ hj => hj.1)) (by rw [HF.out]; have z := make_small (b := b) ks; unfold LB; omega))
      clear hnd hb7 HHo HB6 HF6 HYR6
      go_wp2_with fail
      refine (HBk.out _).mono ?_
      rintro e w8 ⟨rfl, τ2, hBk, hbel, hkk⟩
      have HF8 := Aside0.mk (HF7.out.hand hBk hkk (fun j hj => by have z := (HYR7.out.1 j hj).2; omega))
      have HB8 : Aside0 (Below w.heap.size w w8) := ⟨HB7.out.trans (hbel.mono HGs.out)⟩
      have HTx := Aside0.mk (cTexts (R0.out.step HB8.out) (Rd.of_own HF8.out.kept))
      clear hBk hbel hkk HBk HF7 HYR7 HB7
      go_wp2_with fail
      refine HTx.out.mono ?_
      rintro e w9 ⟨rfl, hb9⟩
      have HB9 := Aside0.mk (below_step HB8.out hb9)
      have HF9 := Aside0.mk (HF8.out.below hb9)
      have HHo := Aside0.mk (HF9.out.book.hold (by omega))
      clear hb9 HTx HB8 HF8
      go_wp2_with fail
      refine HHo.out.mono ?_
      rintro e w10 ⟨rfl, nd, hnd⟩
      have hb10 : Below w9.heap.size w9 w10 := by rw [hnd]; exact pw_below_drewN (Below.refl _ _) nd
      have HB10 := Aside0.mk (below_step HB9.out hb10)
      have HF10 := Aside0.mk ((HF9.out.below hb10).now)
      clear hnd hb10 HHo HB9 HF9
      go_wp2_with fail
      go_roundw
      case rel => exact ⟨k + 1, N + 2 + 2, τ2, by go_num, by omega, by omega, HF10, HB10⟩
      case measure => simp [intOf]; omega
    · have HM1 := Aside0.mk (cMake (R0.out.step HB.out) (by omega) HKS.out HX1.out HX2.out (HTr.out _ HB.out))
      go_wp2_with fail
      refine HM1.out.mono ?_
      rintro e w1 ⟨Ax, nx, cx, fx, rfl, hfx, hxd, -, hbx⟩
      rw [← HF.out] at hfx
      rw [hfx] at hxd
      clear hfx
      have HB1 := Aside0.mk (below_step HB.out hbx)
      have HS1 := Aside0.mk (cSame hxd (Rd.of_own (HFb.out.below hbx).want) rfl)
      clear hxd hbx HM1
      go_wp2_with fail
      refine HS1.out.mono ?_
      rintro e w3 ⟨rfl, hb3⟩
      have HB3 := Aside0.mk (below_step HB1.out hb3)
      clear hb3 HS1
      go_wp2_with fail
      go_ret
      exact ⟨rfl, HB3.out⟩
theorem walk (A0 : Option Addr) (c0 : Nat) (l0 : List ByteArray) {w' : World} (hr0 : Kd.C Kd.string w' A0 l0.length l0) (hc0 : l0.length ≤ c0) (hs : ∀ s ∈ l0, s.size ≤ 9223372036854775807) (b : Int) (hb : (Lit.int .i64 b).wf = true) (w : World) (hT : GT w) (e : w' = w := by rfl) :
    Calls Tryz.prog 3 #[.slice A0 l0.length c0, .int .i64 b] w fun e w' => e = .returned (.bool true) ∧ Below w.heap.size w w' := by
  subst e
  have hx' : -9223372036854775808 ≤ b ∧ b ≤ 9223372036854775807 := by simpa [Lit.wf, IntKind.min, IntKind.max, IntKind.signed, IntKind.bits] using hb
  exact walk_ A0 c0 l0 b _ ⟨rfl, hc0, hr0⟩ hr0.2.1 hs hx'.1 hx'.2 hT
end Go.Proofs.YtlcohooognjmaaaGreatDoor.BloomFresh
namespace Go.Proofs.YtlcohooognjmaaaGreatDoor
open Go.ChangeShapes Go.WideShapes Go.ChangeAt Go.RowKit
theorem bound {H : Type} {l : List (DataW H)} (hk : Rows.uptoSmall H l = true) : Rows.uptoBulkAll l ≤ 1048576 := of_decide_eq_true hk
end Go.Proofs.YtlcohooognjmaaaGreatDoor
namespace Go.Proofs.YtlcohooognjmaaaGreatDoor
open Go.ChangeShapes Go.WideShapes Go.ChangeAt Go.RowKit
open YtlcohooognjmaaaGreatDoorW.PrintWords
theorem strs_open {H : Type} {P : Program} {enc : TypeId × Value → H} {W : World} {base : Nat} {held : Bool} {t e fuel : Nat} {a : Option Addr} {len cap : Nat} {d : DataW H} {ps : List MemPlace} (ht : P.underlying t = some (.slice e)) (he : P.underlying e = some .string) (hc : P.cellsOf e = 1)
    (h : DataW.trod enc P W base (fun _ => true) held fuel t (Value.cells (.slice a len cap)).toList = some (d, ps)) :
    ∃ l : List ByteArray, len = l.length ∧ Kd.C Kd.string W a l.length l ∧ l.length ≤ cap ∧ (∀ s ∈ l, s.size ≤ 9223372036854775807) ∧ (d = .nil ∧ l = [] ∨ ∃ r, d = .slice (strs l) r) := by
  rcases open_strings ht he hc h with ⟨hcs, hx⟩ | ⟨x, n, c, ss, hcs, _, hl, hm, hz, hx, hcell, hs⟩
  · simp [Value.cells] at hcs
    obtain ⟨rfl, rfl, rfl⟩ := hcs
    exact ⟨[], rfl, Kd.C_nil _ _, Nat.le_refl _, by simp, .inl ⟨(Prod.mk.inj hx).1, rfl⟩⟩
  · simp [Value.cells] at hcs
    obtain ⟨rfl, rfl, rfl⟩ := hcs
    have hz' : ss.length = cap := by simpa using hz
    have hlen : (ss.take len).length = len := by rw [List.length_take]; omega
    refine ⟨ss.take len, hlen.symm, ?_, by omega, fun s hm => hs s (List.mem_of_mem_take hm), .inr ⟨_, (Prod.mk.inj hx).1⟩⟩
    rw [hlen]
    refine Kd.C_of_reads (enc := Value.string) (d := ByteArray.empty) (h1 := fun _ => rfl) ⟨hlen, by unfold maxLen at hm; omega, fun hp => ⟨x, rfl, fun i hi => ?_⟩⟩
    rw [hcell i (by omega)]
    congr 2
    simp only [List.getD_eq_getElem?_getD, List.getElem?_take]
    rw [if_pos hi]
theorem strs_row {H : Type} {P : Program} {enc : TypeId × Value → H} {W : World} {base : Nat} {held : Bool} {t e fuel : Nat} {a : Option Addr} {len cap : Nat} {d : DataW H} {ps : List MemPlace} (ht : P.underlying t = some (.slice e)) (he : P.underlying e = some .string) (hc : P.cellsOf e = 1)
    (h : DataW.trod enc P W base (fun _ => true) held fuel t (Value.cells (.slice a len cap)).toList = some (d, ps)) :
    ∃ l : List ByteArray, len = l.length ∧ Kd.C Kd.string W a l.length l ∧ l.length ≤ cap ∧ (∀ s ∈ l, s.size ≤ 9223372036854775807) := by
  obtain ⟨l, h1, h2, h3, h4, _⟩ := strs_open ht he hc h
  exact ⟨l, h1, h2, h3, h4⟩
end Go.Proofs.YtlcohooognjmaaaGreatDoor
namespace Go.Proofs.YtlcohooognjmaaaGreatDoor.bloomFresh
open Go.ChangeShapes Go.WideShapes Go.ChangeAt Go.RowKit
open Go.ChangeMaps (open_string shut_string)
set_option linter.unusedVariables false
theorem own : ownKnob Tryz.prog.godebug = none := by kernel_rfl
theorem laidOut : laidOutB Tryz.prog = true := by kernel_rfl
def IsRow (k : IntKind) (w : World) (a : Option Addr) (len cap : Nat) (zs : List Int) : Prop :=
  (a = none ∧ len = 0 ∧ cap = 0 ∧ zs = []) ∨
  ∃ x, a = some x ∧ len ≤ cap ∧ cap ≤ maxLen ∧ zs.length = cap ∧ (∀ i, i < zs.length → w.cell? (x.add i) = some (.int k (zs.getD i 0))) ∧ ∀ n ∈ zs, (Lit.int k n).wf = true
theorem gTab : Tryz.prog.globalNamed "scree/codec.nibbles" = some 0 := by kernel_rfl
theorem gTabType : (Tryz.prog.globals[0]?).map (·.type) = some 59 := by kernel_rfl
theorem cellsA : Tryz.prog.cellsOf 59 = 16 := by kernel_rfl
theorem cellsE : Tryz.prog.cellsOf 55 = 1 := by kernel_rfl
theorem table {W : World} (h : laidMetH Tryz.prog Rows.bloomFreshRow.laid W) : Lib.TabIs Tryz.prog W "scree/codec.nibbles" .u32 Own.nibs :=
  Lib.tabIs_of_head (rest := []) gTab gTabType Tryz.underlying59 Tryz.underlying55 cellsE cellsA (laidMet.tail (laidMet.tail (laidMet.tail h)))
theorem gt {W : World} (h : laidMetH Tryz.prog Rows.bloomFreshRow.laid W) : Own.GT W := fun i hi => by
  have hl : i < Own.nibs.length := by simpa [Own.nibs] using hi
  have := (table h).cell gTab i hl
  simpa [List.getD_eq_getElem?_getD, hl] using this
set_option maxRecDepth 100000 in
theorem contract (H : Type) (enc : TypeId × Value → H) (W : World) (base : Nat) (args : Array Value) (ds gs : List (DataW H)) (before : List MemPlace)
    (hval : ∀ (j : Nat) t v, Tryz.f3.params[j]? = some t → args[j]? = some v → Value.okWide Tryz.prog W .any base t v)
    (hW : DataW.Whole enc Tryz.prog Tryz.f3.params.toList Rows.bloomFreshSpec.vars false W args.toList ds gs before)
    (hsz0 : (DataW.weightsEach Tryz.prog (Tryz.f3.params.toList ++ Rows.bloomFreshSpec.plain.varTypes Tryz.prog) (ds ++ gs)).all (· ≤ reachBytes) = true) (hL : laidMetH Tryz.prog Rows.bloomFreshRow.laid W) :
    Calls Tryz.prog 3 args W fun e W' => ∃ v, e = .returned v ∧ Rows.bloomFreshSpec.post enc Tryz.prog Tryz.f3 false true false false W args v W' := by
  have hW' := hW
  have hsz := hsz0
  obtain ⟨p, q, hA0, hV, rfl, hfz, hnd⟩ := hW
  have hA : DataW.TrodAll enc Tryz.prog W 0 (fun _ => true) true Tryz.f3.params.toList args.toList ds p := hA0
  rw [Tryz.params3] at hA hval hsz
  obtain ⟨v0, vs0, d0, ds0, p0, q0, hargs, rfl, rfl, h0, r0⟩ := trodAll_cons hA
  obtain ⟨v1, vs1, d1, ds1, p1, q1, rfl, rfl, rfl, h1, r1⟩ := trodAll_cons r0
  obtain ⟨rfl, rfl, rfl⟩ := trodAll_nil r1
  obtain rfl : args = #[v0, v1] := by cases args; simp_all
  obtain ⟨rfl, rfl⟩ := trodVars_none hV
  obtain ⟨a0, len0, cap0, rfl⟩ := okWide_slice Tryz.underlying22 (hval 0 22 v0 rfl rfl)
  have k0 := h0
  have lt0 : ∀ x ∈ p0, x.block < W.heap.size := by obtain ⟨m, hm⟩ := k0; exact DataW.trod_lt m _ _ _ hm
  obtain ⟨l0, el0, hr0, hc0, hs0⟩ : ∃ l : List ByteArray, len0 = l.length ∧ YtlcohooognjmaaaGreatDoorW.PrintWords.Kd.C YtlcohooognjmaaaGreatDoorW.PrintWords.Kd.string W a0 l.length l ∧ l.length ≤ cap0 ∧ (∀ s ∈ l, s.size ≤ 9223372036854775807) := by
    obtain ⟨fuel, hf⟩ := h0
    exact strs_row Tryz.underlying22 Tryz.underlying9 (by kernel_rfl) hf
  subst el0
  obtain ⟨a1, rfl, rfl, rfl, w1⟩ := open_int Tryz.underlying3 (hval 1 3 v1 rfl rfl) h1
  refine (BloomFresh.walk a0 cap0 l0 hr0 hc0 hs0 a1 w1 W (gt hL)).mono fun e W' ⟨he, bel⟩ => ?_
  subst he
  exact ⟨_, rfl, _, _, _, [], _, [], hW', trodAll_mk1 (shut_bool Tryz.underlying4 _), (trodAll_cons_mk (Below.trod laidOut (by kernel_rfl) (of_decide_eq_true (by kernel_rfl)) k0 bel lt0) (trodAll_cons_mk (shut_int Tryz.underlying3 w1) trodAll_mk0)), rfl, bel.frame _, fun h => by cases h⟩
noncomputable def laidWorld (os : Os) : World :=
  { World.holding Tryz.prog os ⟨#[], #[], []⟩ with heap := (((((World.holding Tryz.prog os ⟨#[], #[], []⟩).heap.modify 2 fun
      | .cells _ t frozen => .cells #[.int .u8 0, .int .u8 1, .int .u8 28, .int .u8 2, .int .u8 29, .int .u8 14, .int .u8 24, .int .u8 3, .int .u8 30, .int .u8 22, .int .u8 20, .int .u8 15, .int .u8 25, .int .u8 17, .int .u8 4, .int .u8 8, .int .u8 31, .int .u8 27, .int .u8 13, .int .u8 23, .int .u8 21, .int .u8 19, .int .u8 16, .int .u8 7, .int .u8 26, .int .u8 12, .int .u8 18, .int .u8 6, .int .u8 11, .int .u8 5, .int .u8 10, .int .u8 9] t frozen
      | o => o).modify 3 fun
      | .cells _ t frozen => .cells #[.int .u8 0, .int .u8 1, .int .u8 56, .int .u8 2, .int .u8 57, .int .u8 49, .int .u8 28, .int .u8 3, .int .u8 61, .int .u8 58, .int .u8 42, .int .u8 50, .int .u8 38, .int .u8 29, .int .u8 17, .int .u8 4, .int .u8 62, .int .u8 47, .int .u8 59, .int .u8 36, .int .u8 45, .int .u8 43, .int .u8 51, .int .u8 22, .int .u8 53, .int .u8 39, .int .u8 33, .int .u8 30, .int .u8 24, .int .u8 18, .int .u8 12, .int .u8 5, .int .u8 63, .int .u8 55, .int .u8 48, .int .u8 27, .int .u8 60, .int .u8 41, .int .u8 37, .int .u8 16, .int .u8 46, .int .u8 35, .int .u8 44, .int .u8 21, .int .u8 52, .int .u8 32, .int .u8 23, .int .u8 11, .int .u8 54, .int .u8 26, .int .u8 40, .int .u8 15, .int .u8 34, .int .u8 20, .int .u8 31, .int .u8 10, .int .u8 25, .int .u8 14, .int .u8 19, .int .u8 9, .int .u8 13, .int .u8 8, .int .u8 7, .int .u8 6] t frozen
      | o => o).modify 1 fun
      | .cells _ t frozen => .cells #[.int .u64 1, .int .u64 10, .int .u64 100, .int .u64 1000, .int .u64 10000, .int .u64 100000, .int .u64 1000000, .int .u64 10000000, .int .u64 100000000, .int .u64 1000000000, .int .u64 10000000000, .int .u64 100000000000, .int .u64 1000000000000, .int .u64 10000000000000, .int .u64 100000000000000, .int .u64 1000000000000000, .int .u64 10000000000000000, .int .u64 100000000000000000, .int .u64 1000000000000000000, .int .u64 10000000000000000000] t frozen
      | o => o).modify 0 fun
      | .cells _ t frozen => .cells #[.int .u32 0, .int .u32 274646895, .int .u32 549293790, .int .u32 820201905, .int .u32 1098587580, .int .u32 1361435347, .int .u32 1640403810, .int .u32 1905808397, .int .u32 2197175160, .int .u32 2460548119, .int .u32 2722870694, .int .u32 2987750089, .int .u32 3280807620, .int .u32 3553878443, .int .u32 3811616794, .int .u32 4084100981] t frozen
      | o => o) }
theorem laid_met (os : Os) : laidMet Tryz.prog Rows.bloomFreshRow.laid ((laidWorld os).forCall (fun _ _ => 0) ⟨#[], #[.slice none 0 0, .int .i64 0], []⟩).memory :=
  laidMet_of_run' 8 (by kernel_rfl) (by kernel_rfl)
theorem reads (os : Os) {H : Type} (enc : TypeId × Value → H) : ∃ places, DataW.whole enc Tryz.prog ((laidWorld os).forCall (fun _ _ => 0) ⟨#[], #[.slice none 0 0, .int .i64 0], []⟩).memory Tryz.f3.params.toList Rows.bloomFreshSpec.vars false #[.slice none 0 0, .int .i64 0].toList 8 = some ([.nil, .lit (.int .i64 0)], [], places) :=
  ⟨[], by kernel_rfl⟩
set_option maxRecDepth 100000 in
theorem lifted (os : Os) (started : os.Started) (H : Type) (enc : TypeId × Value → H) (F : Stop.Interp) :
    ReturnsInHanded {} Tryz.checked os 3 .any ((OpenSpec.ofChange Rows.bloomFreshSpec).preRow enc Tryz.prog Tryz.f3 Rows.bloomFreshRow.domain false Rows.bloomFreshRow.laid) (((OpenSpec.ofChange Rows.bloomFreshSpec).at F).post enc Tryz.prog Tryz.f3 false true false false) := by
  obtain ⟨places, hx⟩ := reads os enc
  refine returnsInHanded_of_row (C := Tryz.checked) (s := OpenSpec.ofChange Rows.bloomFreshSpec) own started (by kernel_rfl) Tryz.func3
    (witness_row_at (enc := enc) (C := Tryz.checked) false (laidWorld os) #[.slice none 0 0, .int .i64 0] rfl (by kernel_rfl) (by kernel_rfl) (by kernel_rfl)
      (OpenSpec.preRow_of_cond 8 hx (by kernel_rfl) (fun k hk => by cases hk) (by kernel_rfl) (laid_met os))) ?_
  intro W base args ds gs before hval hW _ _ hsz hL _ _
  exact contract H enc W base args ds gs before hval hW hsz hL
theorem said : Rows.BloomFreshSaid :=
  OpenClaim.holds_of_cond 3 Tryz.f3 rfl rfl rfl rfl rfl rfl rfl ⟨rfl, rfl, rfl, rfl, rfl⟩ rfl rfl rfl rfl rfl (by kernel_rfl) Tryz.func3 (by kernel_rfl)
    (of_decide_eq_true (by kernel_rfl)) (by unfold Func.isWrapper; first | (rw [if_pos (by decide +kernel)]; kernel_rfl) | (rw [if_neg (by decide +kernel)]; exact ⟨rfl, rfl⟩))
    (fun os started H enc _ F => by rw [OpenClaim.pre_eq_preRow]; exact lifted os started H enc F)
theorem plain (f : FuncId) (fn : Func) (hf : Tryz.pinned.checked.prog.funcNamed "scree/screelaw8.BloomFresh" = some f) (hfn : Tryz.pinned.checked.prog.funcs[f]? = some fn) :
    false = Tryz.pinned.checked.prog.looks [] ∧ ∀ (j : Nat) t, fn.params[j]? = some t → Tryz.pinned.checked.prog.wantsStandIn t = false := by
  obtain rfl : f = 3 := Option.some.inj ((show Tryz.prog.funcNamed "scree/screelaw8.BloomFresh" = some 3 by kernel_rfl).symm.trans hf) |>.symm
  obtain rfl : fn = Tryz.f3 := (Option.some.inj (Tryz.func3.symm.trans hfn)).symm
  refine ⟨by kernel_rfl, fun j t ht => ?_⟩
  rw [Tryz.params3] at ht
  have hm : t ∈ [22, 3] := by have := Array.mem_of_getElem? ht; simpa using this
  have hall : ([22, 3].all fun u => !Tryz.prog.wantsStandIn u) = true := by kernel_rfl
  exact (show Tryz.prog.wantsStandIn t = false by simpa using List.all_eq_true.1 hall t hm)
theorem proved : Rows.BloomFreshCardSaid :=
  Claim7.holds_tied_plain_at .later [] _ _ _ _ said (fun _ h => by cases h) (by kernel_rfl) (fun _ h => by cases h) bloomFresh_row_tie rfl ⟨rfl, rfl⟩ (by kernel_rfl) rfl plain (by kernel_rfl)
#print axioms proved
end Go.Proofs.YtlcohooognjmaaaGreatDoor.bloomFresh
