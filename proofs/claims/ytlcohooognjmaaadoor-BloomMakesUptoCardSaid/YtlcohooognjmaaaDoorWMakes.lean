/- The walk of BloomMakes (this claim's own lemmas). -/
import Derived.Test.YtlcohooognjmaaaDoorBlWR
import Derived.Test.YtlcohooognjmaaaDoorSitT
namespace Go.Proofs.YtlcohooognjmaaaDoor.BloomMakes
open Go.RowKit Go.Proofs.YtlcohooognjmaaaDoorW.PrintWords Go.Proofs.YtlcohooognjmaaaDoor.Own Go.Proofs.YtlcohooognjmaaaDoor.BlW Go.Proofs.YtlcohooognjmaaaDoor.G Go.Proofs.YtlcohooognjmaaaDoor.Bl
set_option linter.unusedVariables false
theorem sum_mem {l : List ByteArray} {s : ByteArray} (h : s ∈ l) : s.size ≤ (l.map ByteArray.size).sum := by
  induction l with
  | nil => cases h
  | cons x r ih =>
    simp only [List.map_cons, List.sum_cons]
    rcases List.mem_cons.1 h with rfl | h
    · omega
    · have := ih h; omega
theorem lentT {w W : World} {g b n cap : Nat} {l : List ByteArray} {Ak : Option Addr} {ck : Nat} {lk : List ByteArray} (h : RoomT.Sit w W g b n cap l Ak ck lk) : Rd Kd.string W (some ⟨b, 0, none⟩) n (n + 40) l := by
  have h1 := h.reads
  have h2 := h.len
  rw [h2] at h1
  exact ⟨h2, by omega, h1⟩
theorem keptT {w W : World} {g b n cap : Nat} {l : List ByteArray} {Ak : Option Addr} {ck : Nat} {lk : List ByteArray} (h : RoomT.Sit w W g b n cap l Ak ck lk) : Rd Kd.string W Ak lk.length ck lk := Rd.of_own h.kept
theorem st_ev (l : List ByteArray) (hm : l.length ≤ 9223372036854775807) (d : Nat) : ∀ i : Nat, i + d = l.length → Ev (fun k => QBl.screelaw8_sameTexts.l0 k l l (i : Int)) true := by
  induction d with
  | zero =>
    intro i hi
    refine Ev.step (f := fun _ => some true) (fun k => ?_) (Ev.now _)
    simp only [QBl.screelaw8_sameTexts.l0]
    rw [if_neg (by omega)]
  | succ d ih =>
    intro i hi
    refine Ev.step (fun k => ?_) (ih (i + 1) (by omega))
    simp only [QBl.screelaw8_sameTexts.l0]
    rw [if_pos (by omega), if_pos (by omega), if_pos (by omega), if_pos trivial, show wrap64 ((i : Int) + 1) = ((i + 1 : Nat) : Int) by unfold wrap64; omega]
theorem cSameTexts {w : World} {A1 A2 : Option Addr} {n1 c1 n2 c2 : Nat} {l : List ByteArray} (h1 : Rd Kd.string w A1 n1 c1 l) (h2 : Rd Kd.string w A2 n2 c2 l) : Calls Tryd.prog 11 #[.slice A1 n1 c1, .slice A2 n2 c2] w (Says w true) := by
  obtain ⟨rfl, a2, a3⟩ := h1
  obtain ⟨rfl, b2, b3⟩ := h2
  obtain ⟨k, hk⟩ := (st_ev l a3.2.1 l.length 0 (by omega)).rounds
  exact (QBl.screelaw8_sameTexts.calls k A1 c1 l A2 c2 l true w a3 a2 b3 b2 (by unfold QBl.screelaw8_sameTexts.f; rw [if_pos rfl]; exact hk)).mono fun _ _ h => Says.of h
def Ow {α : Type} (d : Kd α) (t base : Nat) (w : World) (A : Option Addr) (n c : Nat) (l : List α) : Prop := l.length = n ∧ Kd.R d t w base (fun _ => True) (.slice A n c) l
theorem Ow.step {α : Type} {d : Kd α} {t base : Nat} {w w' : World} {A : Option Addr} {n c : Nat} {l : List α} (h : Ow d t base w A n c l) (hb : Below w.heap.size w w') : Ow d t base w' A n c l := ⟨h.1, Kd.R_below h.2 hb⟩
theorem Ow.rd {α : Type} {d : Kd α} {t base : Nat} {w : World} {A : Option Addr} {n c : Nat} {l : List α} (h : Ow d t base w A n c l) : Rd d w A n c l := Rd.of_own h.2
/-- The answer that is kept lies apart from the lent list: a store there leaves it. -/
theorem Ow.set {base : Nat} {w W : World} {g b n cap : Nat} {l : List ByteArray} {Ak : Option Addr} {ck : Nat} {lk : List ByteArray} {A : Option Addr} {m c : Nat} {r : List Int} (h : Ow (Kd.int .u8) 5 base W A m c r) (hS : RoomT.Sit w W g b n cap l Ak ck lk) (k : Nat) (v : Value) : Ow (Kd.int .u8) 5 base (W.setCell ⟨b, k, none⟩ v) A m c r := by
  obtain ⟨cur, hc, -⟩ := hS.row
  exact ⟨h.1, Kd.R_set h.2 hc (fun q hq => by rcases List.mem_cons.1 hq with rfl | hq; decide; cases hq) k v⟩
set_option maxHeartbeats 8000000 in
set_option maxRecDepth 100000 in
theorem walk_ (A0 : Option Addr) (c0 : Nat) (l0 : List ByteArray) (bt : Int) (w : World) (hr0 : Kd.C Kd.string w A0 l0.length l0) (hc0 : l0.length ≤ c0) (hlen : l0.length ≤ 1048576) (hs : ∀ s ∈ l0, s.size ≤ 1048576) (hb1 : -9223372036854775808 ≤ bt) (hb2 : bt ≤ 9223372036854775807) (hT : GT w) :
    Calls Tryd.prog 3 #[.slice A0 l0.length c0, .int .i64 bt] w fun e w' => e = .returned (.bool true) ∧ Below w.heap.size w w' := by
  have HR0 := Aside0.mk hr0
  have HS0 := Aside0.mk hs
  have HS1 : Aside0 (∀ s ∈ l0, s.size ≤ 140737488355328) := ⟨fun s h => by have := hs s h; omega⟩
  have HS2 : Aside0 (∀ s ∈ l0, s.size ≤ 9223372036854775807) := ⟨fun s h => by have := hs s h; omega⟩
  have HT := Aside0.mk hT
  have HB1 := Aside0.mk hb1
  have HB2 := Aside0.mk hb2
  have HB0 := Aside0.mk (Below.refl w.heap.size w)
  clear hr0 hs hT hb1 hb2
  go_enter Tryd.func3, Tryd.ntmps3
  go_wp2_with (first
    | ((with_reducible refine gate_builtin (b := .append) (xs := #[.const (.slice none 0 0), .tmp 11]) rfl ?_); at_builtin; go_must (refine Kd.R_append_rows Kd.string (w0 := w) w.heap.size rfl (.const (.slice none 0 0)) (.tmp 11) 22 9 (.string ByteArray.empty) 16 rfl Tryd.underlying22 RoomT.info_str rfl (by decide) (by omega) (.slice none 0 0) ([] : List ByteArray) l0 _ _ _ (fun _ => True) (fun _ => False) rfl rfl ?aO ?aR (fun _ _ h => h) (fun _ h => h.elim) (fun _ _ => trivial) HB0.out (Nat.le_refl _) ?aL ?_); (case aO => exact Kd.R_nil _ _ _ _ _); (case aR => exact HR0.out); (case aL => simp; omega); intro v1 w1 ho hb hg_ hn_; (obtain ⟨Ak, ck, ek⟩ := Kd.R_slice ho); subst ek; (have HO := Aside0.mk ho); (have HB := Aside0.mk hb); clear ho hb hg_ hn_))
  have HK : Aside0 (Kd.R Kd.string 9 w1 w.heap.size (fun _ => True) (.slice Ak l0.length ck) l0) := ⟨HO.out⟩
  refine (RoomT.texts_new HB.out HR0.out hc0 hlen HK.out).mono ?_
  rintro e w2 ⟨b, cap, rfl, hS⟩
  generalize w1.heap.size = g at hS ⊢
  have S := Aside0.mk hS
  clear hS HB HK HO w1
  go_wp2_with fail
  refine (cRefMake (keptT S.out) (by omega) HS1.out HB1.out HB2.out).mono ?_
  rintro e w3 ⟨A3, n3, c3, r3, rfl, h3, hd3, hR3, hb3⟩
  have S3 := Aside0.mk (S.out.step hb3)
  have Rwant_3 : Aside0 (Ow (Kd.int .u8) 5 w2.heap.size w3 A3 n3 c3 r3) := ⟨⟨hd3.1, hR3⟩⟩
  have Hwant := Aside0.mk h3
  clear h3 hd3 hR3 hb3 S
  have hwl := (Ow.rd Rwant_3.out).1
  have HWL := Aside0.mk hwl
  clear hwl
  go_wp2_with fail
  go_loopw [9] (fun i wr => ∃ k : Nat, k ≤ 3 ∧ i = .int .i64 k ∧ Aside0 (RoomT.Sit w wr g b l0.length cap l0 Ak ck l0) ∧ Aside0 (Ow (Kd.int .u8) 5 w2.heap.size wr A3 n3 c3 r3)) (fun i _ => 3 - (intOf i).toNat)
  case atStart => exact ⟨0, by omega, rfl, S3, Rwant_3⟩
  case round =>
    clear S3 Rwant_3
    obtain ⟨k, hk, rfl, S, RW⟩ := hrel
    by_cases hlt : k < 3
    · skip
      go_wp2_with fail
      refine (cMake (lentT S.out) (by omega) HS2.out HB1.out HB2.out (GT.below HT.out S.out.below)).mono ?_
      rintro e w4 ⟨A4, n4, c4, r4, rfl, h4, hd4, -, hb4⟩
      have S4 := Aside0.mk (S.out.step hb4)
      have Rwant_4 := Aside0.mk (RW.out.step hb4)
      have Rx_4 := Aside0.mk hd4
      have Hx := Aside0.mk h4
      clear h4 hd4 hb4 S RW wr
      go_wp2_with fail
      refine (cSame Rx_4.out (Ow.rd Rwant_4.out) (by rw [Hx.out, Hwant.out])).mono ?_
      rintro e w5 ⟨rfl, hb5⟩
      have S5 := Aside0.mk (S4.out.step hb5)
      have Rwant_5 := Aside0.mk (Rwant_4.out.step hb5)
      have Rx_5 := Aside0.mk (Rx_4.out.step hb5)
      clear hb5 S4 Rwant_4 Rx_4 w4
      clear Rx_5 Hx
      go_wp2_with fail
      exact ⟨⟨k + 1, by omega, by go_num, S5, Rwant_5⟩, by simp [intOf]; omega⟩
    · skip
      go_wp2_with fail
      refine (cSameTexts (lentT S.out) (keptT S.out)).mono ?_
      rintro e w6 ⟨rfl, hb6⟩
      have S6 := Aside0.mk (S.out.step hb6)
      have Rwant_6 := Aside0.mk (RW.out.step hb6)
      clear hb6 S RW wr
      go_wp2_with fail
      obtain ⟨F7, hRm7, hFb7⟩ := S6.out.room
      refine (RoomT.hold_calls w6 _ F7 g _ hRm7 (by simp)).mono ?_
      rintro e w7 ⟨rfl, rfl⟩
      clear hRm7 hFb7 F7
      go_wp2_with fail
      go_loopw [10] (fun i wr => ∃ (k : Nat) (l : List ByteArray), k ≤ l0.length ∧ i = .int .i64 k ∧ Aside0 (∀ s ∈ l, s.size ≤ 1048577) ∧ Aside0 (∀ s ∈ l.drop k, s.size ≤ 1048576) ∧ Aside0 (RoomT.Sit w wr g b l0.length cap l Ak ck l0) ∧ Aside0 (Ow (Kd.int .u8) 5 w2.heap.size wr A3 n3 c3 r3)) (fun i _ => l0.length - (intOf i).toNat)
      case atStart => exact ⟨0, l0, by omega, rfl, ⟨fun s hs => by have := HS0.out s hs; omega⟩, ⟨fun s hs => HS0.out s (List.mem_of_mem_drop hs)⟩, S6, Rwant_6⟩
      case round =>
        clear S6 Rwant_6
        obtain ⟨k, l, hk, rfl, HSZ, HSD, S, RW⟩ := hrel
        by_cases hlt : k < l0.length
        · skip
          have hcell := S.out.row.cell k (by rw [S.out.len]; omega)
          have hfz := S.out.row.frozen k
          have hkl : k < l.length := by rw [S.out.len]; exact hlt
          obtain ⟨s, hs⟩ : ∃ s, rdOf ByteArray.empty l (k : Int) = s := ⟨_, rfl⟩
          have hsz : s.size ≤ 1048576 := by
            rw [← hs]
            simp only [rdOf, Int.toNat_natCast, List.getD_eq_getElem?_getD, List.getElem?_eq_getElem hkl, Option.getD_some]
            exact HSD.out _ (by rw [List.drop_eq_getElem_cons hkl]; exact List.mem_cons_self)
          rw [hs] at hcell
          have HSX : Aside0 ((s ++ (⟨#[120]⟩ : ByteArray)).size ≤ 1048577) := ⟨by simp only [ByteArray.size_append]; have : (⟨#[120]⟩ : ByteArray).size = 1 := rfl; omega⟩
          clear hs hkl
          go_wp2_with fail
          exact ⟨⟨k + 1, l.set k (s ++ ⟨#[120]⟩), by omega, by go_num, ⟨fun t ht => by
              rcases List.mem_or_eq_of_mem_set ht with h1 | rfl
              · exact HSZ.out t h1
              · exact HSX.out⟩, ⟨fun t ht => by
              rw [List.drop_set_of_lt (by omega)] at ht
              refine HSD.out t ?_
              rw [show l.drop (k + 1) = (l.drop k).drop 1 by rw [List.drop_drop]] at ht
              exact List.mem_of_mem_drop ht⟩, ⟨S.out.set k (by rw [S.out.len]; omega) _⟩, ⟨Ow.set RW.out S.out k _⟩⟩, by simp [intOf]; omega⟩
        · skip
          have hll : Aside0 (l.length = l0.length) := ⟨S.out.len⟩
          go_wp2_with fail
          refine (cMake (lentT S.out) (by omega) (fun s hs => by have := HSZ.out s hs; omega) HB1.out HB2.out (GT.below HT.out S.out.below)).mono ?_
          rintro e w8 ⟨A8, n8, c8, r8, rfl, h8, hd8, -, hb8⟩
          have S8 := Aside0.mk (S.out.step hb8)
          have Rwant_8 := Aside0.mk (RW.out.step hb8)
          have Rx_8 := Aside0.mk hd8
          have Hx := Aside0.mk h8
          clear h8 hd8 hb8 S RW wr
          go_wp2_with (first
            | ((with_reducible refine gate_builtin (b := .append) (xs := #[.const (.slice none 0 0), .tmp 57]) rfl ?_); at_builtin; go_must (refine Kd.R_append_rows Kd.string (w0 := w) w.heap.size rfl (.const (.slice none 0 0)) (.tmp 57) 22 9 (.string ByteArray.empty) 16 rfl Tryd.underlying22 RoomT.info_str rfl (by decide) (by omega) (.slice none 0 0) ([] : List ByteArray) l _ _ _ (fun _ => True) (fun _ => False) rfl rfl ?aO ?aR (fun _ _ h => h) (fun _ h => h.elim) (fun _ _ => trivial) S8.out.below S8.out.below.size ?aL ?_); (case aO => exact Kd.R_nil _ _ _ _ _); (case aR => exact (lentT S8.out).2.2); (case aL => have := hll.out; simp; omega); intro v9 w9 ho hb hg_ hn_; (have HO := Aside0.mk ho); (have HG := Aside0.mk hg_); clear ho hb hg_ hn_))
          have hbn : Below w8.heap.size w8 w9 := ⟨HG.out.os, HG.out.tape, HG.out.output, HG.out.size, fun k hk => HG.out.block k hk (by simp [Value.ownBlock])⟩
          have S9 := Aside0.mk (S8.out.step hbn)
          have Rwant_9 := Aside0.mk (Rwant_8.out.step hbn)
          have Rx_9 := Aside0.mk (Rx_8.out.step hbn)
          obtain ⟨Ar, nr, cr, er, hrd, -⟩ := Rd.of_R HO.out
          have hrd' : Rd Kd.string w9 Ar nr cr l := hrd
          have hnr : nr = l.length := hrd'.1.symm
          have hnr2 : nr ≤ 1048576 := by have := hll.out; omega
          subst er
          have Rr_9 := Aside0.mk hrd'
          clear hbn HO HG hrd hrd' hnr S8 Rwant_8 Rx_8 w8
          go_wp2_with fail
          refine (cRefMake Rr_9.out (by omega) (fun s hs => by have := HSZ.out s hs; omega) HB1.out HB2.out).mono ?_
          rintro e w10 ⟨A10, n10, c10, r10, rfl, h10, hd10, -, hb10⟩
          have S10 := Aside0.mk (S9.out.step hb10)
          have Rwant_10 := Aside0.mk (Rwant_9.out.step hb10)
          have Rx_10 := Aside0.mk (Rx_9.out.step hb10)
          have Rr_10 := Aside0.mk (Rr_9.out.step hb10)
          have Ry_10 := Aside0.mk hd10
          have Hy := Aside0.mk h10
          clear h10 hd10 hb10 S9 Rwant_9 Rx_9 Rr_9 w9
          clear Rr_10
          go_wp2_with fail
          refine (cSame Rx_10.out Ry_10.out (by rw [Hx.out, Hy.out])).mono ?_
          rintro e w11 ⟨rfl, hb11⟩
          have S11 := Aside0.mk (S10.out.step hb11)
          have Rwant_11 := Aside0.mk (Rwant_10.out.step hb11)
          have Rx_11 := Aside0.mk (Rx_10.out.step hb11)
          have Ry_11 := Aside0.mk (Ry_10.out.step hb11)
          clear hb11 S10 Rwant_10 Rx_10 Ry_10 w10
          clear Rx_11 Ry_11 Hx Hy
          go_wp2_with fail
          refine (cMake (keptT S11.out) (by omega) HS2.out HB1.out HB2.out (GT.below HT.out S11.out.below)).mono ?_
          rintro e w12 ⟨A12, n12, c12, r12, rfl, h12, hd12, -, hb12⟩
          have S12 := Aside0.mk (S11.out.step hb12)
          have Rwant_12 := Aside0.mk (Rwant_11.out.step hb12)
          have Rx_12 := Aside0.mk hd12
          have Hx := Aside0.mk h12
          clear h12 hd12 hb12 S11 Rwant_11 w11
          go_wp2_with fail
          refine (cSame Rx_12.out (Ow.rd Rwant_12.out) (by rw [Hx.out, Hwant.out])).mono ?_
          rintro e w13 ⟨rfl, hb13⟩
          have S13 := Aside0.mk (S12.out.step hb13)
          have Rwant_13 := Aside0.mk (Rwant_12.out.step hb13)
          have Rx_13 := Aside0.mk (Rx_12.out.step hb13)
          clear hb13 S12 Rwant_12 Rx_12 w12
          clear Rx_13 Hx
          go_wp2_with fail
          obtain ⟨F14, hRm14, hFb14⟩ := S13.out.room
          refine (RoomT.hold_calls w13 _ F14 g _ hRm14 (by simp)).mono ?_
          rintro e w14 ⟨rfl, rfl⟩
          clear hRm14 hFb14 F14
          go_wp2_with fail
          go_ret
          exact ⟨rfl, S13.out.below⟩
theorem walk (A0 : Option Addr) (c0 : Nat) (l0 : List ByteArray) {w' : World} (hr0 : Kd.C Kd.string w' A0 l0.length l0) (hc0 : l0.length ≤ c0) (hs : ∀ s ∈ l0, s.size ≤ 9223372036854775807) (up0 : l0.length + (l0.map ByteArray.size).sum ≤ 1048576) (b : Int) (hb : (Lit.int .i64 b).wf = true) (w : World) (hT : GT w) (e : w' = w := by rfl) :
    Calls Tryd.prog 3 #[.slice A0 l0.length c0, .int .i64 b] w fun e w' => e = .returned (.bool true) ∧ Below w.heap.size w w' := by
  subst e
  have hx' : -9223372036854775808 ≤ b ∧ b ≤ 9223372036854775807 := by simpa [Lit.wf, IntKind.min, IntKind.max, IntKind.signed, IntKind.bits] using hb
  exact walk_ A0 c0 l0 b _ hr0 hc0 (by omega) (fun s hm => by have := sum_mem hm; omega) hx'.1 hx'.2 hT
end Go.Proofs.YtlcohooognjmaaaDoor.BloomMakes
