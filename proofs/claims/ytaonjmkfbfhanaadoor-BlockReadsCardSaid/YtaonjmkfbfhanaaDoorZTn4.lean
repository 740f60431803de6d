/- Lemmas of this claim's own, put together: DMkF, DMkB, DBkD, DMkO, QBox4. -/
import Derived.Test.YtaonjmkfbfhanaaDoorZTn3
import Derived.BigQuiet
import Derived.Deep.QuietTactic
import Derived.Deep.DeepCutAuto
import Derived.Deep.RegionWith
import Derived.Deep.RegionLaw
import Derived.WalkLawsBesides
import Derived.Test.YtaonjmkfbfhanaaDoorZTn2
namespace Go.Proofs.YtaonjmkfbfhanaaDoor.Bk
open Go.RowKit Go.Proofs.YtaonjmkfbfhanaaDoorW.PrintWords Go.Proofs.YtaonjmkfbfhanaaDoor.Own Go.Proofs.YtaonjmkfbfhanaaDoor.G Go.Proofs.YtaonjmkfbfhanaaDoor.Wk Go.Proofs.YtaonjmkfbfhanaaDoor.QBo
set_option linter.unusedVariables false
set_option maxHeartbeats 8000000 in
set_option maxRecDepth 100000 in
theorem add_b {w wc : World} {base g h : Nat} {m : Mk} {e : En} {F : Nat → Prop} {places' : List Nat} {sh : Nat} {dl : Bool} (u8 u9 u10 u11 u12 u13 u14 u15 u16 u17 u18 u19 u20 u21 u22 u23 u24 u25 u26 u27 u28 u29 u30 u31 u32 u33 u34 u35 u36 u37 u38 u39 u40 u41 u42 u43 u44 u45 u46 u47 u48 u49 u50 u51 u52 u53 u54 u55 u56 u57 u58 u59 u60 u61 u62 u63 u64 u65 u66 u67 u68 u69 u70 u71 u72 u73 u74 u75 u76 u77 u78 u79 u80 u81 u82 u83 u84 u85 u86 u87 u88 u89 u90 u91 u92 u93 u94 u95 u96 u97 u98 u99 u100 u101 u102 u103 u104 u105 u106 u107 u108 u109 u110 u111 u112 u113 u114 u115 u116 u117 u118 u119 u120 u121 u122 u123 u124 u125 u126 u127 u128 u129 u130 u131 u132 u133 u134 u135 u136 u137 u138 u139 u140 u141 u142 u143 u144 u145 u146 u147 u148 u149 u150 u151 u152 u153 u154 u155 u156 u157 u158 u159 u160 : Value) (HS4 : Aside0 (MkS w wc base g F ⟨m.rs, m.data, places', m.n, m.last⟩)) (HX4 : Aside0 (wc.heap[h]? = some (.cells #[.string e.f0, .int .u64 e.f1, .bool e.f2, .string e.f3] 30 (0, 0)))) (HSH : Aside0 (sharedM m e = sh)) (HPL : Aside0 ((if m.n % m.rs = 0 then m.places ++ [m.data.length] else m.places) = places')) (HDL : Aside0 (e.f2 = dl)) (HE : Aside0 (addM m e = (0, pushM m e))) (hsl : sh ≤ e.f0.size) (h1 : 1 ≤ e.f0.size) (h2 : e.f0.size ≤ 64) (h5 : e.f2 = false → e.f3.size ≤ 512) (hn : m.n ≤ 1099511627776) (hd : m.data.length ≤ 1099511627776) (HQ : Aside0 (0 ≤ e.f1 ∧ e.f1 ≤ 72057594037927935)) :
    Code.wp Tryd.prog (tailC 14) (bodyPost Tryd.prog Tryd.f41 fun en w' => en = .returned (.int .i64 (addM m e).1) ∧ MkS w w' base g F (addM m e).2) ⟨#[.pointer (some ⟨g, 0, none⟩), .agg #[.string e.f0, .int .u64 e.f1, .bool e.f2, .string e.f3], undef, .pointer (some ⟨h, 0, none⟩), .int .i64 0, .int .i64 0, .int .i64 (sh : Int), .int .u64 (markE e : Int), u8, u9, u10, u11, u12, u13, u14, u15, u16, u17, u18, u19, u20, u21, u22, u23, u24, u25, u26, u27, u28, u29, u30, u31, u32, u33, u34, u35, u36, u37, u38, u39, u40, u41, u42, u43, u44, u45, u46, u47, u48, u49, u50, u51, u52, u53, u54, u55, u56, u57, u58, u59, u60, u61, u62, u63, u64, u65, u66, u67, u68, u69, u70, u71, u72, u73, u74, u75, u76, u77, u78, u79, u80, u81, u82, u83, u84, u85, u86, u87, u88, u89, u90, u91, u92, u93, u94, u95, u96, u97, u98, u99, u100, u101, u102, u103, u104, u105, u106, u107, u108, u109, u110, u111, u112, u113, u114, u115, u116, u117, u118, u119, u120, u121, u122, u123, u124, u125, u126, u127, u128, u129, u130, u131, u132, u133, u134, u135, u136, u137, u138, u139, u140, u141, u142, u143, u144, u145, u146, u147, u148, u149, u150, u151, u152, u153, u154, u155, u156, u157, u158, u159, u160], []⟩ wc := by
  conv => arg 2; whnf
  have hD := hd
  obtain ⟨D1, hD1⟩ : ∃ D, m.data ++ numL sh = D := ⟨_, rfl⟩
  have HD1 := Aside0.mk hD1
  have hl1 : D1.length ≤ 1099511627776 + 10 := by have z := numL_len10 (n := sh) (by omega); rw [← hD1, List.length_append]; omega
  obtain ⟨ks, hks⟩ : ∃ ks, e.f0.size - sh = ks := ⟨_, rfl⟩
  obtain ⟨D2, hD2⟩ : ∃ D, D1 ++ numL ks = D := ⟨_, rfl⟩
  have HD2 := Aside0.mk hD2
  have hl2 : D2.length ≤ 1099511627776 + 20 := by have z := numL_len10 (n := ks) (by omega); rw [← hD2, List.length_append]; omega
  obtain ⟨mk, hmk⟩ : ∃ mk, markE e = mk := ⟨_, rfl⟩
  have hmkl : mk < 288230376151711744 := by rw [← hmk]; unfold markE; have := HQ.out; split <;> omega
  have HMK := Aside0.mk hmk
  obtain ⟨D3, hD3⟩ : ∃ D, D2 ++ numL mk = D := ⟨_, rfl⟩
  have HD3' := Aside0.mk hD3
  have hl3 : D3.length ≤ 1099511627776 + 30 := by have z := numL_len10 (n := mk) (by omega); rw [← hD3, List.length_append]; omega
  have HKS := Aside0.mk hks
  have eks : (e.f0.size : Int) - (sh : Int) = (ks : Int) := by omega
  rw [hmk]
  have w1 : IntKind.u64.wrap (sh : Int) = (sh : Int) := u64_nat (by omega)
  have w2 : IntKind.u64.wrap (ks : Int) = (ks : Int) := u64_nat (by omega)
  have w3 : IntKind.i64.wrap (ks : Int) = (ks : Int) := by rw [IntKind.wrap_i64]; omega
  go_wp2_with fail
  go_upto_region 14 with fail
  go_cut [] (fun wx => Aside0 (MkS w wx base g F ⟨m.rs, D1, places', m.n, m.last⟩) ∧ Aside0 (wx.heap[h]? = some (.cells #[.string e.f0, .int .u64 e.f1, .bool e.f2, .string e.f3] 30 (0, 0))))
  case first =>
    obtain ⟨u1, u2, hM, hR⟩ := HS4.out.open_
    obtain ⟨A1, q1, e1⟩ := Kd.R_slice hM.2.2.1
    subst e1
    have c1 : wc.cell? ⟨g, 1, none⟩ = some (.slice A1 m.data.length q1) := by rw [blk_cell hM.1]; rfl
    have HMd := Aside0.mk (hM.below (below_drew (Below.refl _ wc)))
    have HRd := Aside0.mk hR.drew
    have HBd : Aside0 (base ≤ wc.drew.heap.size) := ⟨HS4.out.bs⟩
    have HXd : Aside0 (wc.drew.heap[h]? = some (.cells #[.string e.f0, .int .u64 e.f1, .bool e.f2, .string e.f3] 30 (0, 0))) := ⟨HX4.out⟩
    have HNL : Aside0 ((numL sh).length ≤ 10) := ⟨numL_len10 (by omega)⟩
    clear hM hR
    go_region_law (first | (refine Kd.R_append_rows_step (Kd.int .u8) (w0 := w) base (by rfl) (.tmp 91) (.tmp 94) 22 5 (.int .u8 0) 1 rfl Tryd.underlying22 infoU rfl (by decide) (by omega) _ m.data l3 _ _ _ (fun _ => True) (fun _ => False) (by rfl) (by rfl) HM2.out.2.2.1 HD3.out.2.2 (fun _ _ h => h) (fun _ h => h.elim) (fun _ _ => trivial) HR2.out.1 HB2.out PL2.out ?_; intro v W3 ho hb hg hat; rw [HL3.out, HD1.out] at ho; (obtain ⟨Av, qv, ev⟩ := Kd.R_slice ho); subst ev; (have HP := Aside0.mk (MkS.put HM2.out HR2.out ho hg hat)); (have hgr := blk_grown HM2.out.1 hg (Kd.R_ne HM2.out.2.2.1 HM2.out.1 (by decide))); (have f3 := blk_frozen hgr 1); (have c3 : W3.cell? ⟨g, 1, none⟩ = some (.slice A1 m.data.length q1) := by rw [blk_cell hgr]; rfl); clear ho hb hg hat hgr) | (go_simp; go_at_call 74; go_must (refine (putUint_calls sh (by omega) _).mono ?_); rintro en W2 ⟨A3, n3, c3, l3, rfl, hl3, hd3, ho3, hb3⟩; (have hM2 := HMd.out.below hb3); (have c2 : W2.cell? ⟨g, 1, none⟩ = some (.slice A1 m.data.length q1) := by rw [blk_cell hM2.1]; rfl); (have HM2 := Aside0.mk hM2); (have HR2 := Aside0.mk (HRd.out.below hb3 HBd.out)); (have HB2 : Aside0 (base ≤ W2.heap.size) := ⟨Nat.le_trans HBd.out hb3.size⟩); (have HX2 := Aside0.mk ((hb3.block _ (blk_lt HXd.out)).trans HXd.out)); (have HD3 := Aside0.mk hd3); (have HL3 := Aside0.mk hl3); (have PL2 : Aside0 ((m.data.length + n3) * 1 ≤ 140737488355328) := ⟨by have z1 := hd3.1; have z2 := HNL.out; rw [hl3] at z1; omega⟩); clear hM2 hb3 hd3 hl3 ho3))
    all_goals (try (go_wp2_with fail))
    all_goals (go_meet; case rel => exact ⟨⟨HP.out.1⟩, ⟨HP.out.2 _ _ _ HX2.out (by decide) (by decide) (by decide)⟩⟩)
  case rest =>
    obtain ⟨HS5, HX5⟩ := hcut
    clear HS4 HX4
    go_wp2_with fail
    go_upto_region 15 with fail
    go_cut [] (fun wx => Aside0 (MkS w wx base g F ⟨m.rs, D2, places', m.n, m.last⟩) ∧ Aside0 (wx.heap[h]? = some (.cells #[.string e.f0, .int .u64 e.f1, .bool e.f2, .string e.f3] 30 (0, 0))))
    case first =>
      obtain ⟨u1, u2, hM, hR⟩ := HS5.out.open_
      obtain ⟨A1, q1, e1⟩ := Kd.R_slice hM.2.2.1
      subst e1
      have c1 : wc.cell? ⟨g, 1, none⟩ = some (.slice A1 D1.length q1) := by rw [blk_cell hM.1]; rfl
      have HMd := Aside0.mk (hM.below (below_drew (Below.refl _ wc)))
      have HRd := Aside0.mk hR.drew
      have HBd : Aside0 (base ≤ wc.drew.heap.size) := ⟨HS5.out.bs⟩
      have HXd : Aside0 (wc.drew.heap[h]? = some (.cells #[.string e.f0, .int .u64 e.f1, .bool e.f2, .string e.f3] 30 (0, 0))) := ⟨HX5.out⟩
      have HNL : Aside0 ((numL ks).length ≤ 10) := ⟨numL_len10 (by omega)⟩
      have x0 : wc.cell? ⟨h, 0, none⟩ = some (.string e.f0) := by rw [blk_cell HX5.out]; rfl
      have xd : ∀ W : World, W.heap[h]? = some (.cells #[.string e.f0, .int .u64 e.f1, .bool e.f2, .string e.f3] 30 (0, 0)) → W.cell? ⟨h, 0, none⟩ = some (.string e.f0) := fun W hW => by rw [blk_cell hW]; rfl
      clear hM hR
      go_region_law (first | (refine Kd.R_append_rows_step (Kd.int .u8) (w0 := w) base (by rfl) (.tmp 102) (.tmp 109) 22 5 (.int .u8 0) 1 rfl Tryd.underlying22 infoU rfl (by decide) (by omega) _ D1 l3 _ _ _ (fun _ => True) (fun _ => False) (by rfl) (by rfl) HM2.out.2.2.1 HD3.out.2.2 (fun _ _ h => h) (fun _ h => h.elim) (fun _ _ => trivial) HR2.out.1 HB2.out PL2.out ?_; intro v W3 ho hb hg hat; rw [HL3.out, HD2.out] at ho; (obtain ⟨Av, qv, ev⟩ := Kd.R_slice ho); subst ev; (have HP := Aside0.mk (MkS.put HM2.out HR2.out ho hg hat)); (have hgr := blk_grown HM2.out.1 hg (Kd.R_ne HM2.out.2.2.1 HM2.out.1 (by decide))); (have f3 := blk_frozen hgr 1); (have c3 : W3.cell? ⟨g, 1, none⟩ = some (.slice A1 D1.length q1) := by rw [blk_cell hgr]; rfl); clear ho hb hg hat hgr) | (go_simp; go_at_call 74; go_must (refine (putUint_calls ks (by omega) _).mono ?_); rintro en W2 ⟨A3, n3, c3, l3, rfl, hl3, hd3, ho3, hb3⟩; (have hM2 := HMd.out.below hb3); (have c2 : W2.cell? ⟨g, 1, none⟩ = some (.slice A1 D1.length q1) := by rw [blk_cell hM2.1]; rfl); (have HM2 := Aside0.mk hM2); (have HR2 := Aside0.mk (HRd.out.below hb3 HBd.out)); (have HB2 : Aside0 (base ≤ W2.heap.size) := ⟨Nat.le_trans HBd.out hb3.size⟩); (have HX2 := Aside0.mk ((hb3.block _ (blk_lt HXd.out)).trans HXd.out)); (have HD3 := Aside0.mk hd3); (have HL3 := Aside0.mk hl3); (have PL2 : Aside0 ((D1.length + n3) * 1 ≤ 140737488355328) := ⟨by have z1 := hd3.1; have z2 := HNL.out; rw [hl3] at z1; omega⟩); clear hM2 hb3 hd3 hl3 ho3))
      all_goals (try (go_wp2_with fail))
      all_goals (go_meet; case rel => exact ⟨⟨HP.out.1⟩, ⟨HP.out.2 _ _ _ HX2.out (by decide) (by decide) (by decide)⟩⟩)
    case rest =>
      obtain ⟨HS6, HX6⟩ := hcut
      clear HS5 HX5
      go_wp2_with fail
      go_upto_region 16 with fail
      go_cut [] (fun wx => Aside0 (MkS w wx base g F ⟨m.rs, D3, places', m.n, m.last⟩) ∧ Aside0 (wx.heap[h]? = some (.cells #[.string e.f0, .int .u64 e.f1, .bool e.f2, .string e.f3] 30 (0, 0))))
      case first =>
        obtain ⟨u1, u2, hM, hR⟩ := HS6.out.open_
        obtain ⟨A1, q1, e1⟩ := Kd.R_slice hM.2.2.1
        subst e1
        have c1 : wc.cell? ⟨g, 1, none⟩ = some (.slice A1 D2.length q1) := by rw [blk_cell hM.1]; rfl
        have HMd := Aside0.mk (hM.below (below_drew (Below.refl _ wc)))
        have HRd := Aside0.mk hR.drew
        have HBd : Aside0 (base ≤ wc.drew.heap.size) := ⟨HS6.out.bs⟩
        have HXd : Aside0 (wc.drew.heap[h]? = some (.cells #[.string e.f0, .int .u64 e.f1, .bool e.f2, .string e.f3] 30 (0, 0))) := ⟨HX6.out⟩
        have HNL : Aside0 ((numL mk).length ≤ 10) := ⟨numL_len10 (by omega)⟩
        clear hM hR
        go_region_law (first | (refine Kd.R_append_rows_step (Kd.int .u8) (w0 := w) base (by rfl) (.tmp 117) (.tmp 119) 22 5 (.int .u8 0) 1 rfl Tryd.underlying22 infoU rfl (by decide) (by omega) _ D2 l3 _ _ _ (fun _ => True) (fun _ => False) (by rfl) (by rfl) HM2.out.2.2.1 HD3.out.2.2 (fun _ _ h => h) (fun _ h => h.elim) (fun _ _ => trivial) HR2.out.1 HB2.out PL2.out ?_; intro v W3 ho hb hg hat; rw [HL3.out, HD3'.out] at ho; (obtain ⟨Av, qv, ev⟩ := Kd.R_slice ho); subst ev; (have HP := Aside0.mk (MkS.put HM2.out HR2.out ho hg hat)); (have hgr := blk_grown HM2.out.1 hg (Kd.R_ne HM2.out.2.2.1 HM2.out.1 (by decide))); (have f3 := blk_frozen hgr 1); (have c3 : W3.cell? ⟨g, 1, none⟩ = some (.slice A1 D2.length q1) := by rw [blk_cell hgr]; rfl); clear ho hb hg hat hgr) | (go_simp; go_at_call 74; go_must (refine (putUint_calls mk (by omega) _).mono ?_); rintro en W2 ⟨A3, n3, c3, l3, rfl, hl3, hd3, ho3, hb3⟩; (have hM2 := HMd.out.below hb3); (have c2 : W2.cell? ⟨g, 1, none⟩ = some (.slice A1 D2.length q1) := by rw [blk_cell hM2.1]; rfl); (have HM2 := Aside0.mk hM2); (have HR2 := Aside0.mk (HRd.out.below hb3 HBd.out)); (have HB2 : Aside0 (base ≤ W2.heap.size) := ⟨Nat.le_trans HBd.out hb3.size⟩); (have HX2 := Aside0.mk ((hb3.block _ (blk_lt HXd.out)).trans HXd.out)); (have HD3 := Aside0.mk hd3); (have HL3 := Aside0.mk hl3); (have PL2 : Aside0 ((D2.length + n3) * 1 ≤ 140737488355328) := ⟨by have z1 := hd3.1; have z2 := HNL.out; rw [hl3] at z1; omega⟩); clear hM2 hb3 hd3 hl3 ho3))
        all_goals (try (go_wp2_with fail))
        all_goals (go_meet; case rel => exact ⟨⟨HP.out.1⟩, ⟨HP.out.2 _ _ _ HX2.out (by decide) (by decide) (by decide)⟩⟩)
      case rest =>
        obtain ⟨HS7, HX7⟩ := hcut
        clear HS6 HX6
        refine (‹∀ (a : Act) (w : World), Code.wp _ _ _ a w → _›) _ _ ?_
        exact add_c _ _ _ _ _ _ _ _ _ _ _ _ _ _ _ _ _ _ _ _ _ _ _ _ _ _ _ _ _ _ _ _ _ _ _ _ _ _ _ _ _ _ _ _ _ _ _ _ _ _ _ _ _ _ _ _ _ _ _ _ _ _ _ _ _ _ _ _ _ _ _ _ _ _ _ _ _ _ _ _ _ _ _ _ _ _ _ _ _ _ _ _ _ _ _ _ _ _ _ _ _ _ _ _ _ _ _ _ _ _ _ _ _ _ _ _ _ _ _ _ _ _ _ _ _ _ _ _ _ _ _ _ _ _ _ _ _ _ _ _ _ _ _ _ _ _ _ _ _ _ _ _ _ HS7 HX7 HSH HPL HDL HE hsl h1 h2 h5 hn HMK ⟨by rw [← HD3'.out, ← HD2.out, ← HD1.out, HKS.out]; simp only [List.append_assoc]⟩ hl3
end Go.Proofs.YtaonjmkfbfhanaaDoor.Bk
namespace Go.Proofs.YtaonjmkfbfhanaaDoor.Bk
open Go.RowKit Go.Proofs.YtaonjmkfbfhanaaDoorW.PrintWords Go.Proofs.YtaonjmkfbfhanaaDoor.Own Go.Proofs.YtaonjmkfbfhanaaDoor.G Go.Proofs.YtaonjmkfbfhanaaDoor.Wk Go.Proofs.YtaonjmkfbfhanaaDoor.QBo
set_option linter.unusedVariables false
set_option maxHeartbeats 8000000 in
set_option maxRecDepth 100000 in
theorem add_calls {w : World} {base g : Nat} {m : Mk} {v1 v2 : Value} {e : En} (hM : MkAt w base g m v1 v2) (he : EnW e) (hd : m.data.length ≤ 1099511627776) (hp : m.places.length ≤ 1099511627776) (hn : m.n ≤ 1099511627776) (hr : 1 ≤ m.rs) (hr2 : m.rs ≤ 9223372036854775807) (hl : m.last.size ≤ 64) :
    Calls Tryd.prog 41 #[.pointer (some ⟨g, 0, none⟩), .agg #[.string e.f0, .int .u64 e.f1, .bool e.f2, .string e.f3]] w fun en w' => en = .returned (.int .i64 (addM m e).1) ∧ MkS w w' base g (mkF g v1 v2) (addM m e).2 := by
  have HS := Aside0.mk hM.start
  obtain ⟨F, hF⟩ : ∃ F, mkF g v1 v2 = F := ⟨_, rfl⟩
  rw [hF] at HS ⊢
  clear hM hF
  have HBX : Aside0 (Below w.heap.size w (w.alloc (.cells #[.string e.f0, .int .u64 e.f1, .bool e.f2, .string e.f3] 30))) := ⟨below_alloc (Below.refl _ _) _⟩
  have HX : Aside0 ((w.alloc (.cells #[.string e.f0, .int .u64 e.f1, .bool e.f2, .string e.f3] 30)).heap[w.heap.size]? = some (.cells #[.string e.f0, .int .u64 e.f1, .bool e.f2, .string e.f3] 30 (0, 0))) := ⟨heap_alloc_new w _⟩
  by_cases hw : wrongE e ≠ 0
  · have d1 : (wrongE e != 0) = true := by rw [bne_iff_ne]; exact hw
    have HE : Aside0 (addM m e = (wrongE e, m)) := ⟨by unfold addM; rw [if_pos hw]⟩
    have HWr := Aside0.mk (writable_calls e)
    obtain ⟨r, hr⟩ : ∃ r, wrongE e = r := ⟨_, rfl⟩
    rw [hr] at d1 HE HWr
    clear hw hr
    go_enter Tryd.func41, Tryd.ntmps41
    go_wp2_with fail
    refine (HWr.out _).mono ?_
    rintro en W1 ⟨rfl, hb1⟩
    have HS1 := Aside0.mk ((HS.out.below HBX.out).below hb1)
    clear hb1
    go_wp2_with fail
    go_ret
    rw [HE.out]
    exact ⟨rfl, HS1.out⟩
  have hw0 : wrongE e = 0 := by omega
  have hE := okE_of hw0 he
  have d1 : (wrongE e != 0) = false := by rw [hw0]; rfl
  have HWr := Aside0.mk (writable_calls e)
  rw [hw0] at HWr
  by_cases ho : 0 < m.n ∧ leK e.f0 m.last = true
  · have HE : Aside0 (addM m e = (90, m)) := ⟨by unfold addM; rw [if_neg hw, if_pos ho]⟩
    have d2 : decide (0 < m.n) = true := decide_eq_true ho.1
    have d2' : decide ((0 : Int) < (m.n : Int)) = true := decide_eq_true (by omega)
    have d3 : (Op.bytesLess e.f0.toList m.last.toList || e.f0.toList == m.last.toList) = true := ho.2
    clear hw ho hw0 d1
    go_enter Tryd.func41, Tryd.ntmps41
    go_wp2_with fail
    refine (HWr.out _).mono ?_
    rintro en W1 ⟨rfl, hb1⟩
    have HS1 := Aside0.mk ((HS.out.below HBX.out).below hb1)
    have HX1 := Aside0.mk ((hb1.block _ (blk_lt HX.out)).trans HX.out)
    clear hb1
    obtain ⟨u1, u2, hM1, -⟩ := HS1.out
    have c3 : W1.cell? ⟨g, 3, none⟩ = some (.int .i64 (m.n : Int)) := by rw [blk_cell hM1.1]; rfl
    have c4 : W1.cell? ⟨g, 4, none⟩ = some (.string m.last) := by rw [blk_cell hM1.1]; rfl
    have x0 : W1.cell? ⟨w.heap.size, 0, none⟩ = some (.string e.f0) := by rw [blk_cell HX1.out]; rfl
    clear hM1
    go_wp2_with fail
    repeat (go_quiet (fail); try (go_wp2_with fail))
    go_ret
    rw [HE.out]
    exact ⟨rfl, HS1.out.below (by repeat (first | exact Below.refl _ _ | apply pw_below_drewN))⟩
  have HE : Aside0 (addM m e = (0, pushM m e)) := ⟨by unfold addM; rw [if_neg hw, if_neg ho]⟩
  have HO := Aside0.mk ho
  clear hw ho hw0
  obtain ⟨h, hh⟩ : ∃ h, w.heap.size = h := ⟨_, rfl⟩
  rw [hh] at HX
  have HH := Aside0.mk hh
  have HS0 := Aside0.mk (HS.out.below HBX.out)
  clear HS HBX
  obtain ⟨h1, h2, h3, h4, h5, h6⟩ := hE
  go_enter Tryd.func41, Tryd.ntmps41
  go_wp2_with fail
  refine (HWr.out _).mono ?_
  rintro en W1 ⟨rfl, hb1⟩
  have HS1 := Aside0.mk (HS0.out.below hb1)
  have HX1 := Aside0.mk ((hb1.block _ (blk_lt HX.out)).trans HX.out)
  clear hb1 HS0 HX hh
  go_upto_region 4 with fail
  go_cut [26] (fun s26 wx => s26 = .bool false ∧ Aside0 (Below W1.heap.size W1 wx))
  case first =>
    focus
      obtain ⟨u1, u2, hM1, -⟩ := HS1.out
      have c3 : W1.cell? ⟨g, 3, none⟩ = some (.int .i64 (m.n : Int)) := by rw [blk_cell hM1.1]; rfl
      have c4 : W1.cell? ⟨g, 4, none⟩ = some (.string m.last) := by rw [blk_cell hM1.1]; rfl
      have x0 : W1.cell? ⟨h, 0, none⟩ = some (.string e.f0) := by rw [blk_cell HX1.out]; rfl
      clear hM1
      by_cases hn0 : 0 < m.n
      · have d2 : decide (0 < m.n) = true := decide_eq_true hn0
        have d2' : decide ((0 : Int) < (m.n : Int)) = true := decide_eq_true (by omega)
        have d3 : (Op.bytesLess e.f0.toList m.last.toList || e.f0.toList == m.last.toList) = false := by
          cases hle : leK e.f0 m.last with
          | true => exact absurd ⟨hn0, hle⟩ HO.out
          | false => exact hle
        clear hn0
        repeat (go_quiet (fail); try (go_wp2_with fail))
        go_meet
        case rel => exact ⟨rfl, ⟨by repeat (first | exact Below.refl _ _ | apply pw_below_drewN)⟩⟩
      · have d2 : decide (0 < m.n) = false := decide_eq_false hn0
        have d2' : decide ((0 : Int) < (m.n : Int)) = false := decide_eq_false (by omega)
        clear hn0
        repeat (go_quiet (fail); try (go_wp2_with fail))
        go_meet
        case rel => exact ⟨rfl, ⟨by repeat (first | exact Below.refl _ _ | apply pw_below_drewN)⟩⟩
  case rest =>
    obtain ⟨rfl, BX⟩ := hcut
    have HS2 := Aside0.mk (HS1.out.below BX.out)
    have HX2 := Aside0.mk ((BX.out.block _ (blk_lt HX1.out)).trans HX1.out)
    clear BX HS1 HX1
    have z0 : ((m.rs : Int) == 0) = false := by rw [beq_eq_false_iff_ne]; omega
    have z0' : ¬ (m.rs : Int) = 0 := by omega
    obtain ⟨bz, hbz⟩ : ∃ bz, decide (m.n % m.rs = 0) = bz := ⟨_, rfl⟩
    have HZ := Aside0.mk hbz
    clear hbz
    go_upto_region 7 with fail
    go_cut [36] (fun s36 wx => s36 = .bool bz ∧ Aside0 (Below wc.heap.size wc wx))
    case first =>
      focus
        obtain ⟨u1, u2, hM2, -⟩ := HS2.out
        have c0 : wc.cell? ⟨g, 0, none⟩ = some (.int .i64 (m.rs : Int)) := by rw [blk_cell hM2.1]; rfl
        have c3 : wc.cell? ⟨g, 3, none⟩ = some (.int .i64 (m.n : Int)) := by rw [blk_cell hM2.1]; rfl
        clear hM2
        have hbz := HZ.out
        have z1 : ((m.n : Int) % (m.rs : Int) == 0) = bz := by
          rw [← hbz, Bool.eq_iff_iff, beq_iff_eq, decide_eq_true_eq]; omega
        have z1' : (m.n % m.rs == 0) = bz := by
          rw [← hbz, Bool.eq_iff_iff, beq_iff_eq, decide_eq_true_eq]
        clear hbz
        repeat (go_quiet (fail); try (go_wp2_with fail))
        go_meet
        case rel => exact ⟨rfl, ⟨by repeat (first | exact Below.refl _ _ | apply pw_below_drewN)⟩⟩
    case rest =>
      obtain ⟨rfl, BX⟩ := hcut
      have HS3 := Aside0.mk (HS2.out.below BX.out)
      have HX3 := Aside0.mk ((BX.out.block _ (blk_lt HX2.out)).trans HX2.out)
      clear BX HS2 HX2 z0 z0'
      go_upto_if 36 with fail
      go_cut [6] (fun s6 wx => s6 = .int .i64 (sharedM m e : Int) ∧ Aside0 (MkS w wx base g F ⟨m.rs, m.data, if m.n % m.rs = 0 then m.places ++ [m.data.length] else m.places, m.n, m.last⟩) ∧ Aside0 (wx.heap[h]? = some (.cells #[.string e.f0, .int .u64 e.f1, .bool e.f2, .string e.f3] 30 (0, 0))))
      case first =>
        focus
          cases bz with
          | true =>
            obtain ⟨u1, u2, hM2, hR2⟩ := HS3.out.open_
            have hz := of_decide_eq_true HZ.out
            have HSh : Aside0 (sharedM m e = 0) := ⟨by unfold sharedM; rw [if_pos hz]⟩
            have HPl : Aside0 ((if m.n % m.rs = 0 then m.places ++ [m.data.length] else m.places) = m.places ++ [m.data.length]) := ⟨if_pos hz⟩
            obtain ⟨A1, q1, e1⟩ := Kd.R_slice hM2.2.2.1
            obtain ⟨A2, q2, e2⟩ := Kd.R_slice hM2.2.2.2
            subst e1 e2
            have c1 : wc.cell? ⟨g, 1, none⟩ = some (.slice A1 m.data.length q1) := by rw [blk_cell hM2.1]; rfl
            have c2 : wc.cell? ⟨g, 2, none⟩ = some (.slice A2 (plcs m).length q2) := by rw [blk_cell hM2.1]; rfl
            have f2 := blk_frozen hM2.1 2
            have HM := Aside0.mk (hM2.below (below_drew (Below.refl _ wc)))
            have HR := Aside0.mk hR2.drew
            have HBS : Aside0 (base ≤ wc.drew.heap.size) := ⟨HS3.out.bs⟩
            have PL : Aside0 (((plcs m).length + 1) * 8 ≤ 140737488355328) := ⟨by unfold plcs; rw [List.length_map]; omega⟩
            have HPLn : Aside0 (((m.places ++ [m.data.length]).map fun (p : Nat) => (p : Int)).length = m.places.length + 1) := ⟨by simp⟩
            have HPC : Aside0 (plcs m ++ [(m.data.length : Int)] = (m.places ++ [m.data.length]).map fun (p : Nat) => (p : Int)) := ⟨by unfold plcs; rw [List.map_append]; rfl⟩
            have kA : (wc.alloc (.cells #[.int .i64 (m.data.length : Int)] 3)).cell? ⟨g, 2, none⟩ = some (.slice A2 (plcs m).length q2) := (blk_cell (blk_alloc hM2.1 _) 2).trans rfl
            have kB : (wc.alloc (.cells #[.int .i64 (m.data.length : Int)] 3)).drew.cell? ⟨g, 2, none⟩ = some (.slice A2 (plcs m).length q2) := kA
            clear hM2 hR2 hz
            go_wp2_with fail
            go_region_law (rw [show (wc.alloc (.cells #[.int .i64 (m.data.length : Int)] 3)).drew = wc.drew.alloc (.cells #[.int .i64 (m.data.length : Int)] 3) from rfl]; refine Kd.R_append_step i64 (w0 := w) base (by rfl) (.tmp 41) (.tmp 47) 64 3 (.int .i64 0) 8 rfl Tryd.underlying64 infoI rfl (by decide) (by omega) _ (plcs m) (m.data.length : Int) [.int .i64 (m.data.length : Int)] (fun _ => True) (fun _ => False) (by rfl) (by rfl) rfl (fun _ hk => hk.elim) (fun _ _ => trivial) HM.out.2.2.2 HR.out.1 HBS.out PL.out ?_; intro v W3 ho hb hg hat; rw [HPC.out] at ho; (obtain ⟨Av, qv, ev⟩ := Kd.R_slice ho); rw [HPLn.out] at ev; subst ev; (have HP := Aside0.mk (MkS.grow HM.out HR.out ho hg hat)); (have hgr := blk_grown HM.out.1 hg (Kd.R_ne HM.out.2.2.2 HM.out.1 (by decide))); (have f3 := blk_frozen hgr 2); (have c3 : W3.cell? ⟨g, 2, none⟩ = some (.slice A2 (plcs m).length q2) := by rw [blk_cell hgr]; rfl); clear ho hb hg hat hgr)
            all_goals (try (go_wp2_with fail))
            all_goals (go_meet; case rel => exact ⟨by rw [HSh.out]; rfl, ⟨by rw [HPl.out]; exact HP.out.1⟩, ⟨HP.out.2 _ _ _ (show wc.drew.heap[h]? = _ from HX3.out) (by decide) (by decide) (by decide)⟩⟩)
          | false =>
            obtain ⟨u1, u2, hM2, hR2⟩ := HS3.out.open_
            have hz := of_decide_eq_false HZ.out
            have HSh : Aside0 (sharedM m e = lcp (bytesOf e.f0) (bytesOf m.last)) := ⟨by unfold sharedM; rw [if_neg hz]⟩
            have HPl : Aside0 ((if m.n % m.rs = 0 then m.places ++ [m.data.length] else m.places) = m.places) := ⟨if_neg hz⟩
            have HM := Aside0.mk hM2
            clear hz hM2 hR2
            go_wp2_with fail
            go_loopw [6] (fun s6 wr => ∃ s : Nat, s6 = .int .i64 (s : Int) ∧ s ≤ e.f0.size ∧ s ≤ m.last.size ∧ Aside0 (lcp (bytesOf e.f0) (bytesOf m.last) = s + lcp ((bytesOf e.f0).drop s) ((bytesOf m.last).drop s)) ∧ Aside0 (Below wc.heap.size wc wr)) (fun s6 _ => e.f0.size - (intOf s6).toNat)
            case atStart => exact ⟨0, rfl, Nat.zero_le _, Nat.zero_le _, ⟨by simp⟩, ⟨Below.refl _ _⟩⟩
            case round =>
              obtain ⟨s, rfl, hs1, hs2, HI, HB⟩ := hrel
              have hM3 := HM.out.below HB.out
              have c4 : wr.cell? ⟨g, 4, none⟩ = some (.string m.last) := by rw [blk_cell hM3.1]; rfl
              have x0 : wr.cell? ⟨h, 0, none⟩ = some (.string e.f0) := by rw [blk_cell ((HB.out.block _ (blk_lt HX3.out)).trans HX3.out)]; rfl
              clear hM3
              by_cases q1 : s < e.f0.size
              · have z1 : decide (s < e.f0.size) = true := decide_eq_true q1
                have z1' : decide ((s : Int) < (e.f0.size : Int)) = true := decide_eq_true (by omega)
                by_cases q2 : s < m.last.size
                · have z2 : decide (s < m.last.size) = true := decide_eq_true q2
                  have z2' : decide ((s : Int) < (m.last.size : Int)) = true := decide_eq_true (by omega)
                  have hx6 : ((e.f0[s]'q1).toNat : Int) = bt e.f0 (s : Int) := bt_at e.f0 (s : Int) q1
                  have hx7 : ((m.last[s]'q2).toNat : Int) = bt m.last (s : Int) := bt_at m.last (s : Int) q2
                  have HC : Aside0 (lcp ((bytesOf e.f0).drop s) ((bytesOf m.last).drop s) = if bt e.f0 (s : Int) = bt m.last (s : Int) then lcp ((bytesOf e.f0).drop (s + 1)) ((bytesOf m.last).drop (s + 1)) + 1 else 0) := ⟨by rw [bytes_cons _ _ q1, bytes_cons _ _ q2]; rfl⟩
                  by_cases q3 : bt e.f0 (s : Int) = bt m.last (s : Int)
                  · have z3 : (bt e.f0 (s : Int) == bt m.last (s : Int)) = true := beq_iff_eq.mpr q3
                    have z3' : (bt e.f0 (s : Int) != bt m.last (s : Int)) = false := bne_eq_false_iff_eq.mpr q3
                    have HC2 := HC.out
                    rw [if_pos q3] at HC2
                    have HC3 := Aside0.mk HC2
                    clear q3 HC HC2
                    go_wp2_with fail
                    repeat (go_quiet (fail); try (go_wp2_with fail))
                    go_roundw
                    case rel => exact ⟨s + 1, by go_num, by omega, by omega, ⟨by rw [HI.out, HC3.out]; omega⟩, ⟨by repeat (first | exact HB.out | apply pw_below_drewN)⟩⟩
                    case measure => simp [intOf]; omega
                  · have z3 : (bt e.f0 (s : Int) == bt m.last (s : Int)) = false := beq_eq_false_iff_ne.mpr q3
                    have z3' : (bt e.f0 (s : Int) != bt m.last (s : Int)) = true := bne_iff_ne.mpr q3
                    have HC2 := HC.out
                    rw [if_neg q3] at HC2
                    have HL : Aside0 (lcp (bytesOf e.f0) (bytesOf m.last) = s) := ⟨by rw [HI.out, HC2]; rfl⟩
                    clear q3 HC HC2
                    go_wp2_with fail
                    repeat (go_quiet (fail); try (go_wp2_with fail))
                    go_meet
                    case rel => exact ⟨by rw [HSh.out, HL.out], ⟨by rw [HPl.out]; exact HS3.out.below (by repeat (first | exact HB.out | apply pw_below_drewN))⟩, ⟨(HB.out.block _ (blk_lt HX3.out)).trans HX3.out⟩⟩
                · have z2 : decide (s < m.last.size) = false := decide_eq_false q2
                  have z2' : decide ((s : Int) < (m.last.size : Int)) = false := decide_eq_false (by omega)
                  have HL : Aside0 (lcp (bytesOf e.f0) (bytesOf m.last) = s) := ⟨by rw [HI.out, bytes_end m.last s (by omega), lcp_nil]; rfl⟩
                  go_wp2_with fail
                  repeat (go_quiet (fail); try (go_wp2_with fail))
                  go_meet
                  case rel => exact ⟨by rw [HSh.out, HL.out], ⟨by rw [HPl.out]; exact HS3.out.below (by repeat (first | exact HB.out | apply pw_below_drewN))⟩, ⟨(HB.out.block _ (blk_lt HX3.out)).trans HX3.out⟩⟩
              · have z1 : decide (s < e.f0.size) = false := decide_eq_false q1
                have z1' : decide ((s : Int) < (e.f0.size : Int)) = false := decide_eq_false (by omega)
                have HL : Aside0 (lcp (bytesOf e.f0) (bytesOf m.last) = s) := ⟨by rw [HI.out, bytes_end e.f0 s (by omega)]; rfl⟩
                go_wp2_with fail
                repeat (go_quiet (fail); try (go_wp2_with fail))
                go_meet
                case rel => exact ⟨by rw [HSh.out, HL.out], ⟨by rw [HPl.out]; exact HS3.out.below (by repeat (first | exact HB.out | apply pw_below_drewN))⟩, ⟨(HB.out.block _ (blk_lt HX3.out)).trans HX3.out⟩⟩
      case rest =>
        obtain ⟨rfl, HS4, HX4⟩ := hcut
        obtain ⟨places', hpl'⟩ : ∃ places', (if m.n % m.rs = 0 then m.places ++ [m.data.length] else m.places) = places' := ⟨_, rfl⟩
        rw [hpl'] at HS4
        have HPL := Aside0.mk hpl'
        obtain ⟨sh, hsh⟩ : ∃ sh, sharedM m e = sh := ⟨_, rfl⟩
        have HSH := Aside0.mk hsh
        have hsl : sh ≤ e.f0.size := by rw [← hsh]; exact (shared_le m e).1
        rw [hsh]
        clear hpl' hsh HS3 HX3 HZ HO
        obtain ⟨q, hq⟩ : ∃ q : Nat, e.f1 = (q : Int) := Int.eq_ofNat_of_zero_le h3
        have hq2 : q ≤ 72057594037927935 := by omega
        have x1 : wc.cell? ⟨h, 1, none⟩ = some (.int .u64 (q : Int)) := by rw [blk_cell HX4.out, hq]; rfl
        obtain ⟨dl, hdl⟩ : ∃ dl, e.f2 = dl := ⟨_, rfl⟩
        have x2 : wc.cell? ⟨h, 2, none⟩ = some (.bool dl) := by rw [blk_cell HX4.out, ← hdl]; rfl
        have HDL := Aside0.mk hdl
        clear hdl
        have HQ := Aside0.mk hq
        have HQQ := Aside0.mk (And.intro h3 h4); clear hq h3 h4
        go_upto_if 84 with fail
        go_cut [7] (fun s7 wx => s7 = .int .u64 (markE e : Int) ∧ wc = wx)
        case first =>
          focus
            cases dl with
            | true =>
              have HMk : Aside0 (markE e = 2 * q + 1) := ⟨by unfold markE; rw [if_pos HDL.out, HQ.out]; rfl⟩
              go_wp2_with fail
              go_meet
              case rel => exact ⟨by rw [HMk.out]; go_num, rfl⟩
            | false =>
              have HMk : Aside0 (markE e = 2 * q) := ⟨by unfold markE; rw [if_neg (by rw [HDL.out]; decide), HQ.out]; rfl⟩
              go_wp2_with fail
              go_meet
              case rel => exact ⟨by rw [HMk.out]; go_num, rfl⟩
        case rest =>
          obtain ⟨rfl, rfl⟩ := hcut
          refine (‹∀ (a : Act) (w : World), Code.wp _ _ _ a w → _›) _ _ ?_
          exact add_b _ _ _ _ _ _ _ _ _ _ _ _ _ _ _ _ _ _ _ _ _ _ _ _ _ _ _ _ _ _ _ _ _ _ _ _ _ _ _ _ _ _ _ _ _ _ _ _ _ _ _ _ _ _ _ _ _ _ _ _ _ _ _ _ _ _ _ _ _ _ _ _ _ _ _ _ _ _ _ _ _ _ _ _ _ _ _ _ _ _ _ _ _ _ _ _ _ _ _ _ _ _ _ _ _ _ _ _ _ _ _ _ _ _ _ _ _ _ _ _ _ _ _ _ _ _ _ _ _ _ _ _ _ _ _ _ _ _ _ _ _ _ _ _ _ _ _ _ _ _ _ _ _ HS4 HX4 HSH HPL HDL HE hsl h1 h2 h5 hn hd HQQ
end Go.Proofs.YtaonjmkfbfhanaaDoor.Bk
namespace Go.Proofs.YtaonjmkfbfhanaaDoor.Bk
open Go.RowKit Go.Proofs.YtaonjmkfbfhanaaDoorW.PrintWords Go.Proofs.YtaonjmkfbfhanaaDoor.Own Go.Proofs.YtaonjmkfbfhanaaDoor.G Go.Proofs.YtaonjmkfbfhanaaDoor.Wk Go.Proofs.YtaonjmkfbfhanaaDoor.QBo
set_option linter.unusedVariables false
/-- A block that is read: its entries and its restart, in new memory. -/
def BlkAt (w0 W : World) (g : Nat) (es : List En) (rs : Nat) : Prop := ∃ A n c, W.heap[g]? = some (.cells #[.slice A n c, .int .i64 (rs : Int)] 98 (0, 0)) ∧ w0.heap.size ≤ g ∧ Kd.R kE 30 W w0.heap.size (fun k => k ≠ g) (.slice A n c) es
/-- What 'read' answers. -/
def ReadPost (w : World) (r : Option (List En × Nat)) (e : Ending) (w' : World) : Prop :=
  (match r with
  | none => e = .returned (.tuple #[.pointer none, .bool false])
  | some (es, rs) => ∃ g, e = .returned (.tuple #[.pointer (some ⟨g, 0, none⟩), .bool true]) ∧ BlkAt w w' g es rs) ∧ Below w.heap.size w w'
/-- One form for both answers of 'entry'. -/
def EntOk (R : Option (En × Nat)) (x : En) (k : Int) (ok : Bool) : Prop := match R with
  | none => ok = false
  | some (y, j) => y = x ∧ k = (j : Int) ∧ ok = true
theorem EntPost.form {w w' : World} {R : Option (En × Nat)} {e : Ending} (h : EntPost w R e w') : ∃ (x : En) (k : Int) (ok : Bool), e = .returned (.tuple #[ev x, .int .i64 k, .bool ok]) ∧ EntOk R x k ok ∧ Below w.heap.size w w' := by
  obtain ⟨h1, h2⟩ := h
  rcases R with _ | ⟨y, j⟩
  · obtain ⟨x, k, rfl⟩ := h1
    exact ⟨x, k, false, rfl, rfl, h2⟩
  · exact ⟨y, j, true, h1, ⟨rfl, rfl, rfl⟩, h2⟩
set_option maxHeartbeats 8000000 in
set_option maxRecDepth 100000 in
theorem read_calls {w : World} {A : Option Addr} {m c : Nat} {b : List Int} (h : Rd (Kd.int .u8) w A m c b) (hb : Bytes b) (hl : b.length ≤ 1073741824) :
    Calls Tryd.prog 39 #[.slice A m c] w (ReadPost w (readB b)) := by
  have hm := h.1
  subst hm
  have HR := Aside0.mk h
  have HB := Aside0.mk hb
  clear h hb
  by_cases c1 : b.length < 8
  · have d1 : decide ((b.length : Int) - 8 < 0) = true := decide_eq_true (by omega)
    have HE : Aside0 (readB b = none) := ⟨by unfold readB; rw [if_pos c1]⟩
    clear c1
    go_enter Tryd.func39, Tryd.ntmps39
    go_wp2_with fail
    go_ret2
    rw [HE.out]
    exact ⟨rfl, Below.refl _ _⟩
  have d1 : decide ((b.length : Int) - 8 < 0) = false := decide_eq_false (by omega)
  obtain ⟨n, hn⟩ : ∃ n, b.length - 8 = n := ⟨_, rfl⟩
  have eN : (b.length : Int) - 8 = (n : Int) := by omega
  obtain ⟨ct, hct⟩ : ∃ ct, wordL b n = ct := ⟨_, rfl⟩
  have hctr : ct < 4294967296 := by rw [← hct]; exact wordL_range HB.out n (by omega)
  have HD0 : Aside0 (readB b = if n / 4 < ct then none else rowsR (b.take (n - 4 * ct)) ((b.take n).drop (n - 4 * ct)) ct (b.length + 1) 0 [] 1) := ⟨by unfold readB; rw [if_neg c1, hn, hct]⟩
  obtain ⟨A', hfrom, hfr⟩ := Rd.from (P := Tryd.prog) (t := 22) (Kd.int .u8) Tryd.underlying22 infoU .i64 A b.length c n (by omega) HR.out.2.1
  have HW : Aside0 (∀ W : World, Below w.heap.size w W → Calls Tryd.prog 70 #[.slice A' (b.length - n) (c - n)] W fun e w' => e = .returned (.int .i64 (ct : Int)) ∧ Drawn0 W w') := ⟨fun W hW => by
    have h1 := (hfr w b HR.out).step hW
    have h2 := word_calls h1 (fun y hy => HB.out y (List.mem_of_mem_drop hy)) (by rw [List.length_drop]; omega)
    rw [wordL_drop, Nat.add_zero, hct] at h2
    exact h2⟩
  obtain ⟨d8, hd8⟩ : ∃ d8, b.length - n = d8 := ⟨_, rfl⟩
  rw [hd8] at hfrom HW
  have HN := Aside0.mk hn
  clear hfr hd8 hct
  obtain ⟨q, hq⟩ : ∃ q, n / 4 = q := ⟨_, rfl⟩
  have eQ : (n : Int) / 4 = (q : Int) := by omega
  rw [hq] at HD0
  by_cases c2 : q < ct
  · have d2 : decide (q < ct) = true := decide_eq_true c2
    have d2' : decide ((q : Int) < (ct : Int)) = true := decide_eq_true (by omega)
    have HE : Aside0 (readB b = none) := ⟨by rw [HD0.out, if_pos c2]⟩
    clear c2 HD0 hn c1 hq
    go_enter Tryd.func39, Tryd.ntmps39
    go_wp2_with fail
    refine (HW.out _ (by repeat (first | exact Below.refl _ _ | apply pw_below_drewN))).mono ?_
    rintro e W1 ⟨rfl, hD⟩
    have HB1 := Aside0.mk hD.below
    clear hD
    go_wp2_with fail
    go_ret2
    rw [HE.out]
    exact ⟨rfl, HB1.out⟩
  have d2 : decide (q < ct) = false := decide_eq_false c2
  have d2' : decide ((q : Int) < (ct : Int)) = false := decide_eq_false (by omega)
  rw [if_neg c2] at HD0
  obtain ⟨mm, hmm⟩ : ∃ mm, n - 4 * ct = mm := ⟨_, rfl⟩
  rw [hmm] at HD0
  have eM : (n : Int) - 4 * (ct : Int) = (mm : Int) := by omega
  have hmn : mm ≤ n := by omega
  have hPn : n - mm = 4 * ct := by omega
  obtain ⟨AD, hsD, hrD⟩ := to_room (P := Tryd.prog) (t := 22) (Kd.int .u8) Tryd.underlying22 infoU .i64 .i64 A b.length c mm (by omega) HR.out.2.1
  obtain ⟨AP, hsP, hrP⟩ := mid_room (P := Tryd.prog) (t := 22) (Kd.int .u8) Tryd.underlying22 infoU .i64 .i64 .i64 A b.length c mm n n hmn (Nat.le_refl _) (by omega) (by have := HR.out.2.1; omega) HR.out.2.1
  obtain ⟨D, hD⟩ : ∃ D, b.take mm = D := ⟨_, rfl⟩
  obtain ⟨Pl, hPl⟩ : ∃ Pl, (b.take n).drop mm = Pl := ⟨_, rfl⟩
  obtain ⟨p, hp⟩ : ∃ p, n - mm = p := ⟨_, rfl⟩
  have hRD := hrD w b HR.out
  have hRP := hrP w b HR.out
  rw [hD] at hRD HD0
  rw [hPl] at hRP HD0
  rw [hp] at hRP hsP hPn
  have RD := Aside0.mk hRD
  have RP := Aside0.mk hRP
  have BD : Aside0 (Bytes D) := ⟨fun y hy => HB.out y (List.mem_of_mem_take (hD ▸ hy))⟩
  have BP : Aside0 (Bytes Pl) := ⟨fun y hy => HB.out y (List.mem_of_mem_take (List.mem_of_mem_drop (hPl ▸ hy)))⟩
  have hDl := hRD.1
  have HPN := Aside0.mk hPn
  have HMN := Aside0.mk (show mm ≤ b.length by omega)
  clear hrD hrP hRD hRP hD hPl c1 c2 hn hq hmm hp hPn
  obtain ⟨r, hr⟩ : ∃ r, readB b = r := ⟨_, rfl⟩
  have HF : Aside0 (rowsR D Pl ct (b.length + 1) 0 [] 1 = r) := ⟨by rw [← HD0.out]; exact hr⟩
  rw [hr]
  clear HD0 hr
  go_enter Tryd.func39, Tryd.ntmps39
  go_wp2_with fail
  refine (HW.out _ (by repeat (first | exact Below.refl _ _ | apply pw_below_drewN))).mono ?_
  rintro e W1 ⟨rfl, hD⟩
  have HB1 := Aside0.mk hD.below
  clear hD
  go_wp2_with fail
  repeat (go_quiet (fail); try (go_wp2_with fail))
  obtain ⟨g, hg⟩ : ∃ g, g = W1.heap.size := ⟨_, rfl⟩
  have HGe : Aside0 (w.heap.size ≤ g) := ⟨by rw [hg]; exact HB1.out.size⟩
  have BK0 : Aside0 (((W1.drewN nq).alloc (.cells #[.slice none 0 0, .int .i64 1] 98)).heap[g]? = some (.cells #[.slice none 0 0, .int .i64 ((1 : Nat) : Int)] 98 (0, 0))) := ⟨by have := heap_alloc_new (W1.drewN nq) (.cells #[.slice none 0 0, .int .i64 1] 98); rw [hg]; simpa using this⟩
  have HB2 : Aside0 (Below w.heap.size w ((W1.drewN nq).alloc (.cells #[.slice none 0 0, .int .i64 1] 98))) := ⟨below_alloc (pw_below_drewN HB1.out nq) _⟩
  rw [← hg]
  clear hg HW HB1
  go_loopw [9] (fun v9 wr => ∃ (a rs f n1 c1 : Nat) (es : List En) (A1 : Option Addr), v9 = .int .i64 (a : Int) ∧ a ≤ mm ∧ rs ≤ a + 1 ∧ es.length = n1 ∧ n1 ≤ a ∧ Aside0 (rowsR D Pl ct f a es rs = r ∧ mm < f + a ∧ (lastK es).size ≤ a) ∧ Aside0 (Below w.heap.size w wr) ∧ Aside0 (wr.heap[g]? = some (.cells #[.slice A1 n1 c1, .int .i64 (rs : Int)] 98 (0, 0))) ∧ Aside0 (Kd.R kE 30 wr w.heap.size (fun k => k ≠ g) (.slice A1 n1 c1) es)) (fun v9 _ => mm - (intOf v9).toNat)
  case atStart => exact ⟨0, 1, b.length + 1, 0, 0, [], none, rfl, by omega, by omega, rfl, by omega, ⟨HF.out, by have := HMN.out; omega, Nat.le_refl 0⟩, HB2, BK0, ⟨Kd.R_nil _ _ _ _ _⟩⟩
  case round =>
    clear HB2 BK0 HF
    obtain ⟨a, rs, f, n1, c1, es, A1, rfl, ha, hrs, hn1, hna, I, B, BK, O⟩ := hrel
    have f0 := blk_frozen BK.out 0
    have f1 := blk_frozen BK.out 1
    have k0 : wr.cell? ⟨g, 0, none⟩ = some (.slice A1 n1 c1) := by rw [blk_cell BK.out]; rfl
    have k1 : wr.cell? ⟨g, 1, none⟩ = some (.int .i64 (rs : Int)) := by rw [blk_cell BK.out]; rfl
    obtain ⟨f', hf'⟩ : ∃ f', f = f' + 1 := ⟨f - 1, by have := I.out.2.1; omega⟩
    subst hf'
    by_cases hlt : a < mm
    · have e1 : decide (a < mm) = true := decide_eq_true hlt
      obtain ⟨wp, hwp⟩ : ∃ wp, wordL Pl 4 = wp := ⟨_, rfl⟩
      have HWP := Aside0.mk hwp
      clear hwp
      go_upto_region 11 with fail
      go_cut [73] (fun s73 wx => s73 = .bool (decide (1 < ct ∧ a = wp ∧ rs = 1 ∧ 0 < n1)) ∧ Aside0 (Below wr.heap.size wr wx))
      case first =>
        by_cases q1 : 1 < ct
        · have z1 : decide (1 < ct) = true := decide_eq_true q1
          have z1' : decide ((1 : Int) < (ct : Int)) = true := decide_eq_true (by omega)
          obtain ⟨A4, hs4, hr4⟩ := Rd.from (P := Tryd.prog) (t := 22) (Kd.int .u8) Tryd.underlying22 infoU .i64 AP p p 4 (by have := HPN.out; omega) (Nat.le_refl _)
          have HW : Aside0 (∀ W : World, Below wr.heap.size wr W → Calls Tryd.prog 70 #[.slice A4 (p - 4) (p - 4)] W fun e w' => e = .returned (.int .i64 (wp : Int)) ∧ Drawn0 W w') := ⟨fun W hW => by
            have h1 := (hr4 w Pl RP.out).step (below_step B.out hW)
            have h2 := word_calls h1 (fun y hy => BP.out y (List.mem_of_mem_drop hy)) (by rw [List.length_drop, RP.out.1]; have := HPN.out; omega)
            rw [wordL_drop, Nat.add_zero, HWP.out] at h2
            exact h2⟩
          obtain ⟨p4, hp4⟩ : ∃ p4, p - 4 = p4 := ⟨_, rfl⟩
          rw [hp4] at hs4 HW
          replace hs4 : ∀ W : World, (Instr.slice 22 (.slice AP p p) (some (.int .i64 4)) none none).run Tryd.prog W = .ok (.slice A4 p4 p4) W := hs4
          clear hr4 hp4
          have BKL := Aside0.mk (blk_lt BK.out)
          by_cases q2 : a = wp
          · have z2 : (a == wp) = true := by rw [beq_iff_eq]; exact q2
            have z2' : ((a : Int) == (wp : Int)) = true := by rw [beq_iff_eq]; omega
            by_cases q3 : rs = 1
            · have z3 : (rs == 1) = true := by rw [beq_iff_eq]; exact q3
              have z3' : ((rs : Int) == 1) = true := by rw [beq_iff_eq]; omega
              by_cases q4 : 0 < n1
              · have z4 : decide (0 < n1) = true := decide_eq_true q4
                have z4' : decide ((0 : Int) < (n1 : Int)) = true := decide_eq_true (by omega)
                have HV : Aside0 (decide (1 < ct ∧ a = wp ∧ rs = 1 ∧ 0 < n1) = true) := ⟨decide_eq_true ⟨q1, q2, q3, q4⟩⟩
                clear q1 q2 q3 q4
                go_wp2_with fail
                refine (HW.out _ (by repeat (first | exact Below.refl _ _ | apply pw_below_drewN))).mono ?_
                rintro e W1 ⟨rfl, hD⟩
                have BX := Aside0.mk (below_step (show Below wr.heap.size wr _ by repeat (first | exact Below.refl _ _ | apply pw_below_drewN)) hD.below)
                have BKX := Aside0.mk ((BX.out.block _ BKL.out).trans BK.out)
                have x0 : W1.cell? ⟨g, 0, none⟩ = some (.slice A1 n1 c1) := by rw [blk_cell BKX.out]; rfl
                have x1 : W1.cell? ⟨g, 1, none⟩ = some (.int .i64 (rs : Int)) := by rw [blk_cell BKX.out]; rfl
                clear hD k0 k1 f0 f1
                go_wp2_with fail
                go_meet
                case rel => exact ⟨by rw [HV.out], ⟨by repeat (first | exact BX.out | apply pw_below_drewN)⟩⟩
              · have z4 : decide (0 < n1) = false := decide_eq_false q4
                have z4' : decide ((0 : Int) < (n1 : Int)) = false := decide_eq_false (by omega)
                have HV : Aside0 (decide (1 < ct ∧ a = wp ∧ rs = 1 ∧ 0 < n1) = false) := ⟨decide_eq_false (fun h => q4 h.2.2.2)⟩
                clear q1 q2 q3 q4
                go_wp2_with fail
                refine (HW.out _ (by repeat (first | exact Below.refl _ _ | apply pw_below_drewN))).mono ?_
                rintro e W1 ⟨rfl, hD⟩
                have BX := Aside0.mk (below_step (show Below wr.heap.size wr _ by repeat (first | exact Below.refl _ _ | apply pw_below_drewN)) hD.below)
                have BKX := Aside0.mk ((BX.out.block _ BKL.out).trans BK.out)
                have x0 : W1.cell? ⟨g, 0, none⟩ = some (.slice A1 n1 c1) := by rw [blk_cell BKX.out]; rfl
                have x1 : W1.cell? ⟨g, 1, none⟩ = some (.int .i64 (rs : Int)) := by rw [blk_cell BKX.out]; rfl
                clear hD k0 k1 f0 f1
                go_wp2_with fail
                go_meet
                case rel => exact ⟨by rw [HV.out], ⟨by repeat (first | exact BX.out | apply pw_below_drewN)⟩⟩
            · have z3 : (rs == 1) = false := by rw [beq_eq_false_iff_ne]; exact q3
              have z3' : ((rs : Int) == 1) = false := by rw [beq_eq_false_iff_ne]; omega
              have HV : Aside0 (decide (1 < ct ∧ a = wp ∧ rs = 1 ∧ 0 < n1) = false) := ⟨decide_eq_false (fun h => q3 h.2.2.1)⟩
              clear q1 q2 q3
              go_wp2_with fail
              refine (HW.out _ (by repeat (first | exact Below.refl _ _ | apply pw_below_drewN))).mono ?_
              rintro e W1 ⟨rfl, hD⟩
              have BX := Aside0.mk (below_step (show Below wr.heap.size wr _ by repeat (first | exact Below.refl _ _ | apply pw_below_drewN)) hD.below)
              have BKX := Aside0.mk ((BX.out.block _ BKL.out).trans BK.out)
              have x0 : W1.cell? ⟨g, 0, none⟩ = some (.slice A1 n1 c1) := by rw [blk_cell BKX.out]; rfl
              have x1 : W1.cell? ⟨g, 1, none⟩ = some (.int .i64 (rs : Int)) := by rw [blk_cell BKX.out]; rfl
              clear hD k0 k1 f0 f1
              go_wp2_with fail
              go_meet
              case rel => exact ⟨by rw [HV.out], ⟨by repeat (first | exact BX.out | apply pw_below_drewN)⟩⟩
          · have z2 : (a == wp) = false := by rw [beq_eq_false_iff_ne]; exact q2
            have z2' : ((a : Int) == (wp : Int)) = false := by rw [beq_eq_false_iff_ne]; omega
            have HV : Aside0 (decide (1 < ct ∧ a = wp ∧ rs = 1 ∧ 0 < n1) = false) := ⟨decide_eq_false (fun h => q2 h.2.1)⟩
            clear q1 q2
            go_wp2_with fail
            refine (HW.out _ (by repeat (first | exact Below.refl _ _ | apply pw_below_drewN))).mono ?_
            rintro e W1 ⟨rfl, hD⟩
            have BX := Aside0.mk (below_step (show Below wr.heap.size wr _ by repeat (first | exact Below.refl _ _ | apply pw_below_drewN)) hD.below)
            have BKX := Aside0.mk ((BX.out.block _ BKL.out).trans BK.out)
            have x0 : W1.cell? ⟨g, 0, none⟩ = some (.slice A1 n1 c1) := by rw [blk_cell BKX.out]; rfl
            have x1 : W1.cell? ⟨g, 1, none⟩ = some (.int .i64 (rs : Int)) := by rw [blk_cell BKX.out]; rfl
            clear hD k0 k1 f0 f1
            go_wp2_with fail
            go_meet
            case rel => exact ⟨by rw [HV.out], ⟨by repeat (first | exact BX.out | apply pw_below_drewN)⟩⟩
        · have z1 : decide (1 < ct) = false := decide_eq_false q1
          have z1' : decide ((1 : Int) < (ct : Int)) = false := decide_eq_false (by omega)
          have HV : Aside0 (decide (1 < ct ∧ a = wp ∧ rs = 1 ∧ 0 < n1) = false) := ⟨decide_eq_false (fun h => q1 h.1)⟩
          clear q1
          go_wp2_with fail
          go_meet
          case rel => exact ⟨by rw [HV.out], ⟨by repeat (first | exact Below.refl _ _ | apply pw_below_drewN)⟩⟩
      case rest =>
        obtain ⟨rfl, BX⟩ := hcut
        obtain ⟨rs', hrs'⟩ : ∃ rs', restS Pl ct a es rs = rs' := ⟨_, rfl⟩
        have HRS := Aside0.mk hrs'
        clear hrs' f0 f1 k0 k1
        have Bc := Aside0.mk (below_step B.out BX.out)
        have BKc := Aside0.mk ((BX.out.block _ (blk_lt BK.out)).trans BK.out)
        have Oc := Aside0.mk (Kd.R_below O.out BX.out)
        have f0 := blk_frozen BKc.out 0
        have f1 := blk_frozen BKc.out 1
        have k0 : wc.cell? ⟨g, 0, none⟩ = some (.slice A1 n1 c1) := by rw [blk_cell BKc.out]; rfl
        have k1 : wc.cell? ⟨g, 1, none⟩ = some (.int .i64 (rs : Int)) := by rw [blk_cell BKc.out]; rfl
        obtain ⟨Bv, hBv⟩ : ∃ Bv, decide (1 < ct ∧ a = wp ∧ rs = 1 ∧ 0 < n1) = Bv := ⟨_, rfl⟩
        rw [hBv]
        have HBv := Aside0.mk hBv
        clear hBv B BK O BX
        go_upto_if 73 with fail
        go_cut [] (fun wx => Aside0 (Below w.heap.size w wx) ∧ Aside0 (wx.heap[g]? = some (.cells #[.slice A1 n1 c1, .int .i64 (rs' : Int)] 98 (0, 0))) ∧ Aside0 (Kd.R kE 30 wx w.heap.size (fun k => k ≠ g) (.slice A1 n1 c1) es))
        case first =>
          cases Bv
          · have HX : Aside0 (rs' = rs) := ⟨by rw [← HRS.out]; unfold restS; rw [HWP.out, hn1]; exact if_neg (of_decide_eq_false HBv.out)⟩
            go_wp2_with fail
            go_meet
            case rel => exact ⟨Bc, by rw [HX.out]; exact BKc, Oc⟩
          · have HX : Aside0 (rs' = n1) := ⟨by rw [← HRS.out]; unfold restS; rw [HWP.out, hn1]; exact if_pos (of_decide_eq_true HBv.out)⟩
            go_wp2_with fail
            go_meet
            case rel => exact ⟨⟨Bc.out.setCell (p := ⟨g, 1, none⟩) HGe.out _⟩, ⟨by rw [HX.out]; exact blk_put BKc.out 1 _ rfl⟩, ⟨Kd.R_far Oc.out (fun k hk => hk) _⟩⟩
        case rest =>
          obtain ⟨B, BK, O⟩ := hcut
          clear f0 f1 k0 k1 Bc BKc Oc
          have hrs2 : rs' ≤ a + 1 := by rw [← HRS.out]; unfold restS; split <;> omega
          have HS := Aside0.mk I.out.2.2
          have BG := Aside0.mk (blk_lt BK.out)
          have hRE : Aside0 (Rd kE wc A1 n1 c1 es) := ⟨Rd.of_own O.out⟩
          obtain ⟨lk, hlk⟩ : ∃ lk, lastK es = lk := ⟨_, rfl⟩
          have HK : Aside0 (∀ W : World, Below wc.heap.size wc W → Calls Tryd.prog 72 #[.pointer (some ⟨g, 0, none⟩)] W fun e w' => e = .returned (.string lk) ∧ Drawn0 W w') := ⟨fun W hW => by
            rw [← hlk]
            exact key_calls ((hW.block _ BG.out).trans BK.out) (hRE.out.step hW) (by omega)⟩
          obtain ⟨A5, hs5, hr5⟩ := mid_room (P := Tryd.prog) (t := 22) (Kd.int .u8) Tryd.underlying22 infoU .i64 .i64 .i64 AD mm mm a mm mm (by omega) (Nat.le_refl _) (Nat.le_refl _) (Nat.le_refl _) (Nat.le_refl _)
          have hr5' := hr5 w D RD.out
          rw [← hDl, List.take_length, hDl] at hr5'
          have R5 := Aside0.mk hr5'
          obtain ⟨dm, hdm⟩ : ∃ dm, mm - a = dm := ⟨_, rfl⟩
          rw [hdm] at hs5 R5
          obtain ⟨R, hR⟩ : ∃ R, entryL (D.drop a) lk = R := ⟨_, rfl⟩
          have HEn : Aside0 (∀ W : World, Below wc.heap.size wc W → Calls Tryd.prog 71 #[.slice A5 dm dm, .string lk] W (EntPost W R)) := ⟨fun W hW => by
            rw [← hR]
            exact entry_calls (R5.out.step (below_step B.out hW)) (fun y hy => BD.out y (List.mem_of_mem_drop hy)) (by rw [List.length_drop]; have := HMN.out; omega) (by have := HS.out; have := HMN.out; rw [← hlk]; omega)⟩
          have HRR := Aside0.mk hR
          have HLK := Aside0.mk hlk
          have HDM := Aside0.mk hdm
          clear hlk hr5 hr5' hR hdm
          go_upto_region 13 with fail
          go_cut [10, 11, 12] (fun s10 s11 s12 wx => ∃ (h : Nat) (x : En) (k : Int) (ok : Bool), s10 = .pointer (some ⟨h, 0, none⟩) ∧ s11 = .int .i64 k ∧ s12 = .bool ok ∧ Aside0 (EntOk R x k ok) ∧ Aside0 (wx.heap[h]? = some (.cells #[.string x.f0, .int .u64 x.f1, .bool x.f2, .string x.f3] 30 (0, 0))) ∧ Aside0 (Below wc.heap.size wc wx))
          case first =>
            go_region_with (first
              | (go_at_call 72; go_must (refine (HK.out _ (by repeat (first | exact BX2.out | exact Below.refl _ _ | apply pw_below_drewN | apply below_alloc | apply below_drew))).mono ?_); rintro e W2 ⟨rfl, hD⟩; (have BX2 := Aside0.mk (below_step (show Below wc.heap.size wc _ from (by repeat (first | exact BX2.out | exact Below.refl _ _ | apply pw_below_drewN | apply below_alloc | apply below_drew))) hD.below)); (try (have HA2 := Aside0.mk (show W2.heap[wc.heap.size]? = some (.cells #[.string (⟨#[]⟩ : ByteArray), .int .u64 0, .bool false, .string (⟨#[]⟩ : ByteArray)] 30 (0, 0)) from (hD.below.block _ (by simp)).trans (by first | exact heap_alloc_new (wc.drewN _) _ | exact heap_alloc_new wc.drew _ | exact heap_alloc_new wc _)))); clear hD)
              | (go_at_call 71; go_must (refine (HEn.out _ (by repeat (first | exact BX2.out | exact Below.refl _ _ | apply pw_below_drewN | apply below_alloc | apply below_drew))).mono ?_); rintro e W3 hE; obtain ⟨x, k, ok, rfl, hok, hD⟩ := EntPost.form hE; clear hE; (have HOK := Aside0.mk hok); clear hok; (have BX3 := Aside0.mk (below_step (show Below wc.heap.size wc _ from (by repeat (first | exact BX2.out | exact Below.refl _ _ | apply pw_below_drewN | apply below_alloc | apply below_drew))) hD)); (try ((first | (have HA3 := Aside0.mk (show W3.heap[wc.heap.size]? = some (.cells #[.string (⟨#[]⟩ : ByteArray), .int .u64 0, .bool false, .string (⟨#[]⟩ : ByteArray)] 30 (0, 0)) from (hD.block _ (blk_lt HA2.out)).trans HA2.out)) | (have HA3 := Aside0.mk (show W3.heap[W2.heap.size]? = some (.cells #[.string (⟨#[]⟩ : ByteArray), .int .u64 0, .bool false, .string (⟨#[]⟩ : ByteArray)] 30 (0, 0)) from (hD.block _ (by simp)).trans (by first | exact heap_alloc_new (W2.drewN _) _ | exact heap_alloc_new W2.drew _ | exact heap_alloc_new W2 _)))); (have hz0 := blk_frozen HA3.out 0); (have hz1 := blk_frozen HA3.out 1); (have hz2 := blk_frozen HA3.out 2); (have hz3 := blk_frozen HA3.out 3); (have hy0 : W3.cell? ⟨_, 0, none⟩ = some (.string (⟨#[]⟩ : ByteArray)) := (blk_cell HA3.out 0).trans rfl); (have hy1 : W3.cell? ⟨_, 1, none⟩ = some (.int .u64 0) := (blk_cell HA3.out 1).trans rfl); (have hy2 : W3.cell? ⟨_, 2, none⟩ = some (.bool false) := (blk_cell HA3.out 2).trans rfl); (have hy3 : W3.cell? ⟨_, 3, none⟩ = some (.string (⟨#[]⟩ : ByteArray)) := (blk_cell HA3.out 3).trans rfl))); clear hD; unfold ev))
            all_goals (try (go_wp2_with fail))
            all_goals (go_meet; case rel => exact ⟨_, x, k, ok, rfl, rfl, rfl, HOK, ⟨by first | exact heap_alloc_new W3 _ | (refine blk_put (cs := #[.string x.f0, .int .u64 x.f1, .bool x.f2, .string (⟨#[]⟩ : ByteArray)]) ?_ 3 _ rfl; refine blk_put (cs := #[.string x.f0, .int .u64 x.f1, .bool false, .string (⟨#[]⟩ : ByteArray)]) ?_ 2 _ rfl; refine blk_put (cs := #[.string x.f0, .int .u64 0, .bool false, .string (⟨#[]⟩ : ByteArray)]) ?_ 1 _ rfl; refine blk_put (cs := #[.string (⟨#[]⟩ : ByteArray), .int .u64 0, .bool false, .string (⟨#[]⟩ : ByteArray)]) ?_ 0 _ rfl; exact HA3.out)⟩, ⟨(by repeat (first | exact BX3.out | apply pw_below_drewN | apply below_alloc | apply below_drew | refine Below.setCell (p := ⟨_, _, none⟩) ?_ (by first | exact BX2.out.size | exact Nat.le_refl _) _))⟩⟩)
          case rest =>
            obtain ⟨h, x, k, ok, rfl, rfl, rfl, HOK, HH, BX⟩ := hcut
            rcases R with _ | ⟨y, j⟩
            · have hok : ok = false := HOK.out
              subst hok
              have HE : Aside0 (r = none) := ⟨by have := I.out.1; rw [rowsR_step, hDl, if_pos hlt, HLK.out, HRR.out] at this; exact this.symm⟩
              clear hlt
              go_wp2_with fail
              go_ret2
              rw [HE.out]
              exact ⟨rfl, below_step B.out BX.out⟩
            · obtain ⟨hy, hj, hok⟩ : y = x ∧ k = (j : Int) ∧ ok = true := HOK.out
              subst hy hj hok
              have hkp := entryL_pos HRR.out
              rw [List.length_drop, hDl] at hkp
              obtain ⟨hk1, hk2, hk3⟩ := hkp
              have hka : a + j ≤ mm := by omega
              have J : Aside0 (rowsR D Pl ct f' (a + j) (es ++ [y]) rs' = r ∧ mm < f' + (a + j) ∧ (lastK (es ++ [y])).size ≤ a + j) := ⟨by
                obtain ⟨i1, i2, i3⟩ := I.out
                rw [rowsR_step, hDl, if_pos hlt, HLK.out, HRR.out] at i1
                simp only [HRS.out] at i1
                refine ⟨i1, by omega, ?_⟩
                rw [lastK_snoc]
                rw [HLK.out] at i3
                omega⟩
              have BY := Aside0.mk (below_step B.out BX.out)
              have BKY := Aside0.mk ((BX.out.block _ BG.out).trans BK.out)
              have OY := Aside0.mk (Kd.R_below O.out BX.out)
              have f0 := blk_frozen BKY.out 0
              have f1 := blk_frozen BKY.out 1
              have k0 : wc.cell? ⟨g, 0, none⟩ = some (.slice A1 n1 c1) := by rw [blk_cell BKY.out]; rfl
              have y0 : wc.cell? ⟨h, 0, none⟩ = some (.string y.f0) := by rw [blk_cell HH.out]; rfl
              have y1 : wc.cell? ⟨h, 1, none⟩ = some (.int .u64 y.f1) := by rw [blk_cell HH.out]; rfl
              have y2 : wc.cell? ⟨h, 2, none⟩ = some (.bool y.f2) := by rw [blk_cell HH.out]; rfl
              have y3 : wc.cell? ⟨h, 3, none⟩ = some (.string y.f3) := by rw [blk_cell HH.out]; rfl
              have BGY := Aside0.mk (blk_lt BKY.out)
              have PL := Aside0.mk (show (es.length + 1) * 48 ≤ 140737488355328 by omega)
              have kA : (wc.alloc (.cells #[.string y.f0, .int .u64 y.f1, .bool y.f2, .string y.f3] 30)).cell? ⟨g, 0, none⟩ = some (.slice A1 n1 c1) := (blk_cell (blk_alloc BKY.out _) 0).trans rfl
              have kB : (wc.alloc (.cells #[.string y.f0, .int .u64 y.f1, .bool y.f2, .string y.f3] 30)).drew.cell? ⟨g, 0, none⟩ = some (.slice A1 n1 c1) := kA
              go_upto_region 16 with fail
              go_cut [] (fun wx => ∃ (A2 : Option Addr) (c2 : Nat), Aside0 (Below w.heap.size w wx) ∧ Aside0 (wx.heap[g]? = some (.cells #[.slice A2 (n1 + 1) c2, .int .i64 (rs' : Int)] 98 (0, 0))) ∧ Aside0 (Kd.R kE 30 wx w.heap.size (fun k => k ≠ g) (.slice A2 (n1 + 1) c2) (es ++ [y])))
              case first =>
                go_region_law (rw [show (wc.alloc (.cells #[.string y.f0, .int .u64 y.f1, .bool y.f2, .string y.f3] 30)).drew = wc.drew.alloc (.cells #[.string y.f0, .int .u64 y.f1, .bool y.f2, .string y.f3] 30) from rfl]; refine Kd.R_append_step kE (w0 := w) w.heap.size (by rfl) (.tmp 102) (.tmp 104) 25 30 (.agg #[(.string ⟨#[]⟩), (.int .u64 0), (.bool false), (.string ⟨#[]⟩)]) 48 rfl Tryd.underlying25 info30 rfl (by decide) (by omega) _ es y [.string y.f0, .int .u64 y.f1, .bool y.f2, .string y.f3] (fun k_ => k_ ≠ g) (fun _ => False) (by rfl) (by rfl) (k30_mkM _ _ _ y) (fun _ hk => hk.elim) (fun k_ hk => by intro hkg; subst hkg; exact absurd hk (Nat.not_le.mpr BGY.out)) (by (with_reducible repeat (first | apply Kd.R_alloc | apply Kd.R_drewN | apply Kd.R_drew)); exact OY.out) (by repeat (first | (with_reducible first | exact BY.out | apply below_alloc | apply pw_below_drewN | apply below_drew) | exact BY.out)) (below_size (by repeat (first | (with_reducible first | exact BY.out | apply below_alloc | apply pw_below_drewN | apply below_drew) | exact BY.out))) PL.out ?_; intro v1 W3 ho hb hg hat; obtain ⟨A2, n2, c2, rfl, hR2, hO2⟩ := Rd.of_R ho; (have O3 := Aside0.mk hO2); (have B3 := Aside0.mk hb); (have BK3 := Aside0.mk (blk_grown (g := g) (o := .cells #[.slice A1 n1 c1, .int .i64 (rs' : Int)] 98 (0, 0)) (by (with_reducible repeat (first | refine blk_drewN ?_ _ | refine blk_drew ?_ | refine blk_alloc ?_ _)); exact BKY.out) hg (Kd.R_away OY.out (fun _ hk => hk)))); (have N3 := Aside0.mk hR2.1); (have g0 := blk_frozen BK3.out 0); (have j0 : W3.cell? ⟨g, 0, none⟩ = some (.slice A1 n1 c1) := by rw [blk_cell BK3.out]; rfl); clear ho hb hg hat hR2 hO2)
                all_goals (try (go_wp2_with fail))
                all_goals (go_meet; case rel => (have hn2 : n2 = n1 + 1 := by have := N3.out; simp only [List.length_append, List.length_cons, List.length_nil] at this; omega); subst hn2; exact ⟨A2, c2, ⟨B3.out.setCell (p := ⟨g, 0, none⟩) HGe.out _⟩, ⟨blk_put BK3.out 0 _ rfl⟩, ⟨Kd.R_far O3.out (fun _ hk => hk) _⟩⟩)
              case rest =>
                obtain ⟨A2, c2, BZ, BKZ, OZ⟩ := hcut
                clear f0 f1 k0 y0 y1 y2 y3 kA kB
                go_wp2_with fail
                go_roundw
                case rel => exact ⟨a + j, rs', f', n1 + 1, c2, es ++ [y], A2, by first | rfl | go_num, by omega, by omega, by simp [hn1], by omega, J, BZ, BKZ, OZ⟩
                case measure => simp [intOf]; omega
    · have e1 : decide (a < mm) = false := decide_eq_false hlt
      have HE : Aside0 (r = some (es, if ct ≤ 1 then max es.length 1 else rs)) := ⟨by have := I.out.1; rw [rowsR_step, hDl, if_neg hlt] at this; exact this.symm⟩
      by_cases h1 : ct ≤ 1
      · have e2 : decide (ct ≤ 1) = true := decide_eq_true h1
        have e2' : decide ((ct : Int) ≤ 1) = true := decide_eq_true (by omega)
        rw [if_pos h1] at HE
        clear hlt h1
        by_cases hz : 1 ≤ n1
        · have HMX : Aside0 (max es.length 1 = n1) := ⟨by omega⟩
          have z1 : decide (n1 < 1) = false := decide_eq_false (by omega)
          have z2 : decide ((n1 : Int) < 1) = false := decide_eq_false (by omega)
          go_wp2_with fail
          go_ret2
          rw [HE.out, HMX.out]
          exact ⟨⟨g, rfl, A1, n1, c1, blk_put BK.out 1 _ rfl, HGe.out, Kd.R_far O.out (fun k hk => hk) _⟩, B.out.setCell (p := ⟨g, 1, none⟩) HGe.out _⟩
        · have HMX : Aside0 (max es.length 1 = 1) := ⟨by omega⟩
          have hn0 : n1 = 0 := by omega
          subst hn0
          go_wp2_with fail
          go_ret2
          rw [HE.out, HMX.out]
          exact ⟨⟨g, rfl, A1, 0, c1, blk_put BK.out 1 _ rfl, HGe.out, Kd.R_far O.out (fun k hk => hk) _⟩, B.out.setCell (p := ⟨g, 1, none⟩) HGe.out _⟩
      · have e2 : decide (ct ≤ 1) = false := decide_eq_false h1
        have e2' : decide ((ct : Int) ≤ 1) = false := decide_eq_false (by omega)
        rw [if_neg h1] at HE
        clear hlt h1
        go_wp2_with fail
        go_ret2
        rw [HE.out]
        exact ⟨⟨g, rfl, A1, n1, c1, BK.out, HGe.out, O.out⟩, B.out⟩
end Go.Proofs.YtaonjmkfbfhanaaDoor.Bk
namespace Go.Proofs.YtaonjmkfbfhanaaDoor.Bk
open Go.RowKit Go.Proofs.YtaonjmkfbfhanaaDoorW.PrintWords Go.Proofs.YtaonjmkfbfhanaaDoor.Own Go.Proofs.YtaonjmkfbfhanaaDoor.G Go.Proofs.YtaonjmkfbfhanaaDoor.Wk Go.Proofs.YtaonjmkfbfhanaaDoor.QBo
set_option linter.unusedVariables false
/-- What 'Open' answers. -/
def OpenPost (w : World) (r : Option (List En × Nat)) (e : Ending) (w' : World) : Prop :=
  (match r with
  | none => e = .returned (.tuple #[.pointer none, .int .i64 91])
  | some (es, rs) => ∃ g, e = .returned (.tuple #[.pointer (some ⟨g, 0, none⟩), .int .i64 0]) ∧ BlkAt w w' g es rs) ∧ Below w.heap.size w w'
/-- An entry that was read: its number is one. -/
theorem entryL_enW {l : List Int} {s : ByteArray} {x : En} {k : Nat} (hb : Bytes l) (h : entryL l s = some (x, k)) : EnW x := by
  have key : ∀ k (a : Nat) (acc : List Nat) ns b, (∀ y ∈ acc, y < 18446744073709551616) → numsR k l a acc = some (ns, b) → ∀ y ∈ ns, y < 18446744073709551616 := by
    intro k
    induction k with
    | zero =>
      intro a acc ns b ha h
      simp only [numsR, Option.some.injEq, Prod.mk.injEq] at h
      obtain ⟨rfl, _⟩ := h
      exact ha
    | succ k ih =>
      intro a acc ns b ha h
      rw [numsR_step] at h
      split at h
      · cases h
      · refine ih _ _ _ _ (fun y hy => ?_) h
        rcases List.mem_append.1 hy with hy | hy
        · exact ha y hy
        · rw [List.mem_singleton.1 hy]
          exact (uintN_spec (l.drop a) (fun z hz => hb z (List.mem_of_mem_drop hz))).1
  unfold entryL at h
  split at h
  · cases h
  · rename_i ns a hn
    have hall := key 3 0 [] ns a (fun y hy => by cases hy) hn
    have h2 : ns.getD 2 0 < 18446744073709551616 := by
      rw [List.getD_eq_getElem?_getD]
      cases hq : ns[2]? with
      | none => simp
      | some y => exact hall y (List.mem_of_getElem? hq)
    simp only at h
    split at h
    · cases h
    · split at h
      · simp only [Option.some.injEq, Prod.mk.injEq] at h
        obtain ⟨rfl, _⟩ := h
        exact ⟨by simp only; omega, by simp only; omega⟩
      · split at h
        · cases h
        · simp only [Option.some.injEq, Prod.mk.injEq] at h
          obtain ⟨rfl, _⟩ := h
          exact ⟨by simp only; omega, by simp only; omega⟩
theorem rowsR_all (D Pl : List Int) (hD : Bytes D) (ct : Nat) : ∀ (f a : Nat) (es : List En) (rs : Nat) (L : List En) (R : Nat), rowsR D Pl ct f a es rs = some (L, R) → a ≤ D.length → es.length ≤ a → (∀ e ∈ es, EnW e) → L.length ≤ D.length ∧ ∀ e ∈ L, EnW e := by
  intro f
  induction f with
  | zero => intro a es rs L R h; simp [rowsR] at h
  | succ f ih =>
    intro a es rs L R h h1 h2 h3
    rw [rowsR_step] at h
    split at h
    · split at h
      · cases h
      · rename_i x k hx
        have hp := entryL_pos hx
        rw [List.length_drop] at hp
        have hw := entryL_enW (fun y hy => hD y (List.mem_of_mem_drop hy)) hx
        refine ih _ _ _ _ _ h (by omega) (by rw [List.length_append, List.length_singleton]; omega) (fun e he => ?_)
        rcases List.mem_append.1 he with he | he
        · exact h3 e he
        · rw [List.mem_singleton.1 he]; exact hw
    · simp only [Option.some.injEq, Prod.mk.injEq] at h
      obtain ⟨rfl, _⟩ := h
      exact ⟨by omega, h3⟩
theorem readB_all {b : List Int} (hb : Bytes b) {L : List En} {R : Nat} (h : readB b = some (L, R)) : L.length ≤ b.length ∧ ∀ e ∈ L, EnW e := by
  unfold readB at h
  split at h
  · cases h
  · split at h
    · cases h
    · have := rowsR_all _ _ (fun y hy => hb y (List.mem_of_mem_take hy)) _ _ _ _ _ _ _ h (Nat.zero_le _) (Nat.zero_le _) (fun e he => by cases he)
      exact ⟨by have h2 := this.1; rw [List.length_take] at h2; omega, this.2⟩
theorem BlkAt.step {w W W' : World} {g : Nat} {es : List En} {rs : Nat} (h : BlkAt w W g es rs) (hb : Below W.heap.size W W') : BlkAt w W' g es rs := by
  obtain ⟨A, n, c, h1, h2, h3⟩ := h
  exact ⟨A, n, c, (hb.block _ (blk_lt h1)).trans h1, h2, Kd.R_below h3 hb⟩
def finB (b : List Int) (es : List En) (rs : Nat) (q : Option Mk) : Option (List En × Nat) := match q with
  | none => none
  | some m => if bytesM m = b then some (es, rs) else none
theorem openB_fin {b : List Int} {es : List En} {rs : Nat} (h : readB b = some (es, rs)) : openB b = finB b es rs (addsM (newM (rs : Int)) es) := by
  unfold openB finB
  rw [h]
  rfl
theorem equal_calls {w : World} {A1 A2 : Option Addr} {n1 c1 n2 c2 : Nat} {l1 l2 : List Int} (h1 : Rd (Kd.int .u8) w A1 n1 c1 l1) (h2 : Rd (Kd.int .u8) w A2 n2 c2 l2) (b1 : Bytes l1) (b2 : Bytes l2) :
    Calls Tryd.prog 42 #[.slice A1 n1 c1, .slice A2 n2 c2] w (Says w (decide (l1 = l2))) := by
  obtain ⟨rfl, a2, a3⟩ := h1
  obtain ⟨rfl, d2, d3⟩ := h2
  refine (bytes_Equal.calls A1 c1 l1 A2 c2 l2 _ w a3 a2 d3 d2 ?_).mono fun _ _ h => Says.of h
  unfold bytes_Equal.f
  congr 1
  rw [Bool.eq_iff_iff, beq_iff_eq, decide_eq_true_eq]
  constructor
  · intro h
    have h' : strOfNums l1 = strOfNums l2 := by
      rw [ByteArray.toList_eq, ByteArray.toList_eq] at h
      exact ByteArray.ext (Array.ext' h)
    rw [← bytes_strOf b1, ← bytes_strOf b2, h']
  · intro h; rw [h]
theorem bytesM_bytes {m : Mk} (hb : Bytes m.data) (hp : ∀ p ∈ m.places, p < 4294967296) (hl : m.places.length < 4294967296) : Bytes (bytesM m) := by
  have h1 : Bytes (bodyM m) := bytes_app (bytes_app hb (flat4_bytes hp)) (bytes_four ⟨by omega, by omega⟩)
  exact bytes_app h1 (bytes_four (sumF_range h1))
set_option maxHeartbeats 8000000 in
set_option maxRecDepth 100000 in
theorem open_calls {w : World} {A : Option Addr} {n c : Nat} {b : List Int} (h : Rd (Kd.int .u8) w A n c b) (hb : Bytes b) (hl : b.length ≤ 1048576) (hT : GT w) :
    Calls Tryd.prog 16 #[.slice A n c] w (OpenPost w (openB b)) := by
  have HR := Aside0.mk h
  have HB := Aside0.mk hb
  have HT := Aside0.mk hT
  have HRd := Aside0.mk (read_calls h hb (by omega))
  obtain ⟨r, hr⟩ : ∃ r, readB b = r := ⟨_, rfl⟩
  rw [hr] at HRd
  clear h hb hT
  cases r with
  | none =>
    have HE : Aside0 (openB b = none) := ⟨by unfold openB; rw [hr]⟩
    clear hr
    go_enter Tryd.func16, Tryd.ntmps16
    go_wp2_with fail
    refine HRd.out.mono ?_
    rintro en W1 ⟨he, hb1⟩
    have he' : en = .returned (.tuple #[.pointer none, .bool false]) := he
    subst he'
    have HB1 := Aside0.mk hb1
    clear hb1 he
    go_wp2_with fail
    go_ret2
    rw [HE.out]
    exact ⟨rfl, HB1.out⟩
  | some p =>
    obtain ⟨es, rs⟩ := p
    have hrs := read_rs hr
    have hall := readB_all HB.out hr
    obtain ⟨q, hq⟩ : ∃ q, addsM (newM (rs : Int)) es = q := ⟨_, rfl⟩
    have HE : Aside0 (openB b = finB b es rs q) := ⟨by rw [openB_fin hr, hq]⟩
    have HEW := Aside0.mk hall.2
    have hel := hall.1
    have HQ := Aside0.mk hq
    clear hr hq hall
    go_enter Tryd.func16, Tryd.ntmps16
    go_wp2_with fail
    refine HRd.out.mono ?_
    rintro en W1 ⟨⟨gk, he, A1, n1, c1, hk1, hk2, hk3⟩, hb1⟩
    subst he
    have HRk := Aside0.mk (Kd.R_reads' hk3)
    have hn1 : es.length = n1 := by obtain ⟨A', q', e'⟩ := Kd.R_slice hk3; injection e' with _ e2 _; exact e2.symm
    have HK1 := Aside0.mk hk1
    have HBlk : Aside0 (BlkAt w W1 gk es rs) := ⟨⟨A1, n1, c1, hk1, hk2, hk3⟩⟩
    have HB1 := Aside0.mk hb1
    have kc0 : W1.cell? ⟨gk, 0, none⟩ = some (.slice A1 n1 c1) := by rw [blk_cell hk1]; rfl
    have kc1 : W1.cell? ⟨gk, 1, none⟩ = some (.int .i64 (rs : Int)) := by rw [blk_cell hk1]; rfl
    clear hb1 hk1 hk2 hk3
    go_wp2_with fail
    refine (new_calls (rs : Int) W1).mono ?_
    rintro en W2 ⟨v1, v2, rfl, hM2, hb2⟩
    obtain ⟨gm, hgm⟩ : ∃ gm, W1.heap.size = gm := ⟨_, rfl⟩
    have HGM := Aside0.mk hgm
    have HM2 : Aside0 (MkAt W2 gm gm (newM (rs : Int)) v1 v2) := ⟨by rw [← hgm]; exact hM2⟩
    have HB2 : Aside0 (Below gm W1 W2) := ⟨by rw [← hgm]; exact hb2⟩
    have kc2 : W2.cell? ⟨gk, 0, none⟩ = some (.slice A1 n1 c1) := (hb2.cell (p := ⟨gk, 0, none⟩) (blk_lt HK1.out)).trans kc0
    rw [hgm]
    have HC1 : Aside0 (Kd.C kE W1 A1 n1 es) := ⟨by have z := HRk.out.2.2; rwa [hn1] at z⟩
    clear hM2 hb2 kc0 kc1 hgm
    go_wp2_with fail
    go_loopw [26] (fun s26 wr => ∃ (k : Nat) (mm : Mk), s26 = .int .i64 (k : Int) ∧ k ≤ n1 ∧ Aside0 (GoodM (rs : Int) mm k) ∧ Aside0 (addsM mm (es.drop k) = q) ∧ Aside0 (∃ v1 v2, MkAt wr gm gm mm v1 v2) ∧ Aside0 (Below gm W1 wr)) (fun s26 _ => n1 - (intOf s26).toNat)
    case atStart => exact ⟨0, newM (rs : Int), rfl, Nat.zero_le _, ⟨goodM_new _⟩, HQ, ⟨_, _, HM2.out⟩, HB2⟩
    case round =>
      clear HM2 HB2 kc2
      obtain ⟨k, mm, rfl, hk, HGd, HQ, HMm, HBr⟩ := hrel
      have hBW : Below W1.heap.size W1 wr := by rw [HGM.out]; exact HBr.out
      by_cases hlt : k < n1
      · obtain ⟨ad, ea, x0, x1, x2, x3⟩ := at_T30 (Kd.C_below HC1.out hBW) (k : Int) (by omega) (by omega)
        subst ea
        obtain ⟨e, he⟩ : ∃ e, rd_T30 es (k : Int) = e := ⟨_, rfl⟩
        rw [he, Int.toNat_natCast] at x0 x1 x2 x3
        have hek : es[k]'(by omega) = e := by rw [← he]; simp [rd_T30, List.getD_eq_getElem?_getD, hn1, hlt]
        have HEe : Aside0 (EnW e) := ⟨by rw [← hek]; exact HEW.out _ (List.getElem_mem _)⟩
        have HQ2 : Aside0 (addsM mm (e :: es.drop (k + 1)) = q) := ⟨by rw [← hek, ← List.drop_eq_getElem_cons]; exact HQ.out⟩
        obtain ⟨v1, v2, hMm⟩ := HMm.out
        have HM := Aside0.mk hMm
        clear he hek hMm hBW HQ
        have HBA : Aside0 (Below wr.heap.size wr (wr.alloc (.cells #[.string e.f0, .int .u64 e.f1, .bool e.f2, .string e.f3] 30))) := ⟨below_alloc (Below.refl _ _) _⟩
        have hgd := HGd.out.data
        have hgp := HGd.out.places
        have hgn := HGd.out.n
        have hgr := HGd.out.rs
        have hrl : rsOf (rs : Int) = rs := rsOf_nat hrs.1
        have HAd := Aside0.mk (add_calls (HM.out.below HBA.out) HEe.out (by omega) (by omega) (by omega) (by omega) (by omega) HGd.out.last)
        obtain ⟨cd, hcd⟩ : ∃ cd, (addM mm e).1 = cd := ⟨_, rfl⟩
        rw [hcd] at HAd
        have HCd := Aside0.mk hcd
        clear hcd hgd hgp hgn hgr hrl
        by_cases h0 : cd = 0
        · have d0 : (cd != 0) = false := by rw [h0]; rfl
          have HGd2 : Aside0 (GoodM (rs : Int) (addM mm e).2 (k + 1)) := ⟨goodM_step HGd.out (by rw [HCd.out, h0]) HEe.out⟩
          have HQ3 : Aside0 (addsM (addM mm e).2 (es.drop (k + 1)) = q) := ⟨by have z := HQ2.out; unfold addsM at z; rwa [if_pos (by rw [HCd.out, h0])] at z⟩
          clear h0
          go_wp2_with fail
          refine HAd.out.mono ?_
          rintro en W3 ⟨rfl, hS⟩
          obtain ⟨v1', v2', hM3, hB3, -, -⟩ := hS
          have HM3 := Aside0.mk hM3
          have HB3 := Aside0.mk ((HBr.out.trans (HBA.out.mono (by have z := HBr.out.size; have z2 := HGM.out; omega))).trans hB3)
          clear hM3 hB3
          go_wp2_with fail
          go_roundw
          case rel => exact ⟨k + 1, _, by go_num, by omega, HGd2, HQ3, ⟨v1', v2', HM3.out⟩, HB3⟩
          case measure => simp [intOf]; omega
        · have d0 : (cd != 0) = true := by rw [bne_iff_ne]; exact h0
          have HN : Aside0 (openB b = none) := ⟨by
            have z := HQ2.out
            unfold addsM at z
            rw [if_neg (by rw [HCd.out]; exact h0)] at z
            rw [HE.out, ← z]
            rfl⟩
          clear h0
          go_wp2_with fail
          refine HAd.out.mono ?_
          rintro en W3 ⟨rfl, hS⟩
          have HB3 := Aside0.mk ((HBr.out.trans (HBA.out.mono (by have z := HBr.out.size; have z2 := HGM.out; omega))).trans hS.bel)
          clear hS
          go_wp2_with fail
          go_ret2
          rw [HN.out]
          exact ⟨rfl, below_step HB1.out (by rw [HGM.out]; exact HB3.out)⟩
      · obtain rfl : k = n1 := by omega
        have HF : Aside0 (openB b = if bytesM mm = b then some (es, rs) else none) := ⟨by
          have z := HQ.out
          rw [List.drop_of_length_le (by omega)] at z
          have z2 : some mm = q := z
          rw [HE.out, ← z2]
          rfl⟩
        have hgd := HGd.out.data
        have hgp := HGd.out.places
        have HSm : Aside0 (∀ p ∈ mm.places, p < 4294967296) := ⟨fun p hp => by have z := HGd.out.small p hp; omega⟩
        obtain ⟨v1, v2, hMm⟩ := HMm.out
        have HTr := Aside0.mk (HT.out.below (below_step HB1.out hBW))
        have HBy := Aside0.mk (bytes_calls hMm (by omega) (by omega) HGd.out.bytes HSm.out HTr.out)
        have HMB : Aside0 (Bytes (bytesM mm)) := ⟨bytesM_bytes HGd.out.bytes HSm.out (by omega)⟩
        have HBW := Aside0.mk hBW
        clear hMm hgd hgp hBW hlt
        go_wp2_with fail
        refine HBy.out.mono ?_
        rintro en W3 ⟨A3, n3, c3, l3, rfl, hl3, hd3, -, hb3⟩
        subst hl3
        have HD3 := Aside0.mk hd3
        have HB3 := Aside0.mk (below_step HBW.out hb3)
        clear hd3 hb3
        go_wp2_with fail
        refine (equal_calls HD3.out (HR.out.step (below_step HB1.out HB3.out)) HMB.out HB.out).mono ?_
        rintro en W4 ⟨rfl, hb4⟩
        have HB4 := Aside0.mk (below_step HB3.out hb4)
        clear hb4
        by_cases heq : bytesM mm = b
        · have d0 : decide (bytesM mm = b) = true := decide_eq_true heq
          rw [if_pos heq] at HF
          clear heq
          rw [d0]
          go_wp2_with fail
          go_ret2
          rw [HF.out]
          exact ⟨⟨gk, rfl, HBlk.out.step HB4.out⟩, below_step HB1.out HB4.out⟩
        · have d0 : decide (bytesM mm = b) = false := decide_eq_false heq
          rw [if_neg heq] at HF
          clear heq
          rw [d0]
          go_wp2_with fail
          go_ret2
          rw [HF.out]
          exact ⟨rfl, below_step HB1.out HB4.out⟩
end Go.Proofs.YtaonjmkfbfhanaaDoor.Bk
namespace Go.Proofs.YtaonjmkfbfhanaaDoor.QBo
open Go.Proofs.YtaonjmkfbfhanaaDoor.Own
open Go.RowKit Go.Proofs.YtaonjmkfbfhanaaDoorW.PrintWords Go.Proofs.YtaonjmkfbfhanaaDoorW.PrintLast Go.Proofs.YtaonjmkfbfhanaaDoorW.PrintMore
attribute [local go_sem] max2_int min2_int max_two min_two max_three min_three max_four min_four   -- for this text's walks alone
set_option linter.unusedVariables false
set_option linter.unusedSimpArgs false
def screeref9_Fault.f (k : Nat) (a0_0 : ByteArray) (a0_1 : Int) (a0_2 : Bool) (a0_3 : ByteArray) : Option (Int) := (screeref1_CheckBatch.f k (([(⟨a0_0, a0_2, a0_3⟩ : S112)] : List (S112)))).bind fun t161 => (if t161 = 0 then (if a0_1 > 72057594037927935 then (some 91) else (if a0_2 = true then (if a0_3.toList = ([] : List UInt8) then (some 0) else (some 91)) else (some 0))) else (some t161))
theorem screeref9_Fault.mono : ∀ a0 a1 a2 a3 k, LeO (screeref9_Fault.f k a0 a1 a2 a3) (screeref9_Fault.f (k + 1) a0 a1 a2 a3) := by
  intro a0 a1 a2 a3 k
  unfold screeref9_Fault.f
  repeat' first
      | (with_reducible exact screeref1_CheckBatch.mono _ _)
      | (with_reducible exact LeO.refl _)
      | (with_reducible exact LeO.none _)
      | (with_reducible refine LeO.ite ?_ ?_)
      | (with_reducible refine LeO.bind ?_ (fun _ => ?_))
      | exact screeref1_CheckBatch.mono _ _
      | exact LeO.none _
      | refine LeO.ite ?_ ?_
      | refine LeO.bind ?_ (fun _ => ?_)
set_option maxHeartbeats 8000000 in
set_option maxRecDepth 100000 in
theorem screeref9_Fault.calls (k : Nat) (a0_0 : ByteArray) (a0_1 : Int) (a0_2 : Bool) (a0_3 : ByteArray) (r : Int) (w : World) (h : screeref9_Fault.f k a0_0 a0_1 a0_2 a0_3 = some r) :
    Calls Tryd.prog 32 #[.agg #[.string a0_0, .int .u64 a0_1, .bool a0_2, .string a0_3]] w fun e w' => e = .returned (.int .i64 r) ∧ Below w.heap.size w w' := by
  have hu30 := Tryd.underlying30
  have hu112 := Tryd.underlying112
  have HB := Aside0.mk (Below.refl w.heap.size w)
  have H : ((screeref1_CheckBatch.f k (([(⟨a0_0, a0_2, a0_3⟩ : S112)] : List (S112)))).bind fun t161 => (if t161 = 0 then (if a0_1 > 72057594037927935 then (some 91) else (if a0_2 = true then (if a0_3.toList = ([] : List UInt8) then (some 0) else (some 91)) else (some 0))) else (some t161))) = some r := h
  clear h
  obtain ⟨y158, hy158⟩ : ∃ y_ : List (S112), y_ = (([(⟨a0_0, a0_2, a0_3⟩ : S112)] : List (S112))) := ⟨_, rfl⟩
  replace H : ((screeref1_CheckBatch.f k y158).bind fun t161 => (if t161 = 0 then (if a0_1 > 72057594037927935 then (some 91) else (if a0_2 = true then (if a0_3.toList = ([] : List UInt8) then (some 0) else (some 91)) else (some 0))) else (some t161))) = some r := by first | (rw [hy158]; with_reducible exact H) | (have H2_ := (Option.bind_some _ _).symm.trans H; rw [hy158]; with_reducible exact H2_) | (have H2_ := (Option.bind_some _ _).symm.trans H; with_reducible exact H2_) | with_reducible exact H | (rw [hy158]; exact H) | exact H
  have Ny158 := Aside0.mk hy158
  clear hy158
  replace H := Option.bind_eq_some_iff.mp H
  obtain ⟨t161, A20, H⟩ := H
  replace H : (if t161 = 0 then (if a0_1 > 72057594037927935 then (some 91) else (if a0_2 = true then (if a0_3.toList = ([] : List UInt8) then (some 0) else (some 91)) else (some 0))) else (some t161)) = some r := H
  have A2 := Aside0.mk A20
  clear A20
  by_cases c3 : t161 = 0
  · rw [if_pos c3] at H
    have c3b0 : (t161 == 0) = true := beq_iff_eq.mpr c3
    have c3b1 : (t161 != 0) = false := bne_eq_false_iff_eq.mpr c3
    clear c3
    by_cases c4 : a0_1 > 72057594037927935
    · rw [if_pos c4] at H
      have c4b0 : decide (72057594037927935 < a0_1) = true := decide_eq_true c4
      clear c4
      obtain rfl := Option.some.inj H
      go_enter Tryd.func32, Tryd.ntmps32
      go_wp2_with (first | ((with_reducible refine gate_dst (N := 1) rfl ?_); refine box_event ?hg (N := 1) ?hd (cs := #[.string a0_0, .int .u64 a0_1, .bool a0_2, .string a0_3]) (t := 30) ?hr ?_; (case hd => rfl); (case hg => rfl); (case hr => first | (go_simp; done) | (go_simp; rfl)); intro gb157 hg w5 hbox hb; have n0_ := Aside0.mk (below_step (by repeat (first | (with_reducible first | exact HB.out | apply below_alloc | apply pw_below_drewN | apply below_drew1) | exact HB.out)) hb); have n1_ := Aside0.mk (hbox); have n2_ := Aside0.mk ((by rw [hg]; exact (below_size (by repeat (first | (with_reducible first | exact HB.out | apply below_alloc | apply pw_below_drewN | apply below_drew1) | exact HB.out))) : w.heap.size ≤ gb157)); have n3_ := Aside0.mk ((by rw [hg]; exact (below_size (by repeat (first | (with_reducible first | exact HB.out | apply below_alloc | apply pw_below_drewN | apply below_drew1) | exact HB.out))) : w.heap.size ≤ gb157)); clear HB; have HB := n0_; have BK157 := n1_; have GW157 := n2_; have GE157 := n3_; clear n0_ n1_ n2_ n3_; clear hb hbox hg; have hcz6_0 : w5.cell? ⟨gb157, 0, none⟩ = some (.string a0_0) := (blk_cell BK157.out 0).trans rfl; have hcz6_1 : w5.cell? ⟨gb157, 1, none⟩ = some (.int .u64 a0_1) := (blk_cell BK157.out 1).trans rfl; have hcz6_2 : w5.cell? ⟨gb157, 2, none⟩ = some (.bool a0_2) := (blk_cell BK157.out 2).trans rfl; have hcz6_3 : w5.cell? ⟨gb157, 3, none⟩ = some (.string a0_3) := (blk_cell BK157.out 3).trans rfl; have hfz6_0 := blk_frozen BK157.out 0; have hfz6_1 := blk_frozen BK157.out 1; have hfz6_2 := blk_frozen BK157.out 2; have hfz6_3 := blk_frozen BK157.out 3) | ((with_reducible refine gate_dst (N := 11) rfl ?_); refine Kd.R_lit k112 _ 112 ?hg (N := 11) ?hd (xs := ([(⟨a0_0, a0_2, a0_3⟩ : S112)] : List (S112))) (inner := [.string a0_0, .bool a0_2, .string a0_3]) (ok := fun _ => True) (okp := fun _ => True) ?hr ?hp (fun _ hk => hk) trivial (Below.refl _ _) (Nat.le_refl _) (by simp) ?_; (case hd => rfl); (case hg => rfl); (case hr => first | (go_simp; done) | (go_simp; rfl)); (case hp => exact (Reps.c3 (show Kd.M k112 _ _ _ (⟨a0_0, a0_2, a0_3⟩ : S112) [.string a0_0, .bool a0_2, .string a0_3] from (k112_mkM _ _ _ (⟨a0_0, a0_2, a0_3⟩ : S112) )) (Reps.none _ _))); intro v159 w7 ho8 hb hg_ hnew_; clear hg_ hnew_; (first | rw [← Ny158.out] at ho8 | (simp only [Int.reduceToNat] at ho8; rw [← Ny158.out] at ho8)); have n0_ := Aside0.mk (Kd.R_lower ho8 (below_size (by repeat (first | (with_reducible first | exact HB.out | apply below_alloc | apply pw_below_drewN | apply below_drew1 | refine below_set ?_ GE157.out) | exact HB.out)))); have n1_ := Aside0.mk (blk_below (g := gb157) (o := .cells #[.string a0_0, .int .u64 a0_1, .bool a0_2, .string a0_3] 30 (0, 0)) (by (with_reducible repeat (first | refine blk_drewN ?_ _ | refine blk_drew ?_ | refine blk_alloc ?_ _)); exact BK157.out) hb); have n2_ := Aside0.mk (below_step (by repeat (first | (with_reducible first | exact HB.out | apply below_alloc | apply pw_below_drewN | apply below_drew1 | refine below_set ?_ GE157.out) | exact HB.out)) hb); clear BK157; clear HB; have HO160 := n0_; have BK157 := n1_; have HB := n2_; clear n0_ n1_ n2_; clear hb ho8; obtain ⟨Ao9, co9, eo9⟩ := Kd.R_slice HO160.out; subst eo9) | ((with_reducible refine gate_callee (f := 65) rfl ?_); refine goesL_ (some 12) rfl rfl Tryd.func65 (by kernel_rfl) rfl #[.slice Ao9 y158.length co9] rfl (by (try simp only [List.map_toArray, List.map_cons, List.map_nil]); first | done | rfl | (simp only [List.length_drop, List.length_take]; rfl)) ?_; (with_reducible refine (screeref1_CheckBatch.calls k _ _ y158 t161 _ ?side1 ?side2 A2.out).mono ?_); (case side1 => repeat (first | exact (Kd.R_reads' HO160.out).2.2 | (with_reducible refine Kd.C_alloc ?_ _) | (with_reducible refine Kd.C_drewN ?_ _) | (with_reducible refine Kd.C_drew ?_))); (case side2 => exact (Kd.R_reads' HO160.out).2.1); rintro e w' ⟨rfl, ⟨nd, rfl⟩⟩; refine ⟨_, rfl, ?_⟩; have hcz10_0 : w7.cell? ⟨gb157, 0, none⟩ = some (.string a0_0) := (blk_cell BK157.out 0).trans rfl; have hcz10_1 : w7.cell? ⟨gb157, 1, none⟩ = some (.int .u64 a0_1) := (blk_cell BK157.out 1).trans rfl; have hcz10_2 : w7.cell? ⟨gb157, 2, none⟩ = some (.bool a0_2) := (blk_cell BK157.out 2).trans rfl; have hcz10_3 : w7.cell? ⟨gb157, 3, none⟩ = some (.string a0_3) := (blk_cell BK157.out 3).trans rfl; have hfz10_0 := blk_frozen BK157.out 0; have hfz10_1 := blk_frozen BK157.out 1; have hfz10_2 := blk_frozen BK157.out 2; have hfz10_3 := blk_frozen BK157.out 3))
      go_ret
      exact ⟨by first | rfl | (simp [errW_none, errW_some] <;> rfl) | (simp [*, errW_none, errW_some] <;> rfl), by repeat (first | (with_reducible first | exact HB.out | apply below_alloc | apply pw_below_drewN | apply below_drew1 | refine below_set ?_ GE157.out) | exact HB.out)⟩
    · rw [if_neg c4] at H
      have c4b0 : decide (72057594037927935 < a0_1) = false := decide_eq_false c4
      clear c4
      by_cases c11 : a0_2 = true
      · subst c11
        have H1 : (if a0_3.toList = ([] : List UInt8) then (some 0) else (some 91)) = some r := by rw [if_pos rfl] at H; exact H
        clear H
        have H := H1
        clear H1
        by_cases c12 : a0_3.toList = ([] : List UInt8)
        · rw [if_pos c12] at H
          have c12b0 : (a0_3.toList == ([] : List UInt8)) = true := beq_iff_eq.mpr c12
          have c12b1 : (a0_3.toList != ([] : List UInt8)) = false := bne_eq_false_iff_eq.mpr c12
          clear c12
          obtain rfl := Option.some.inj H
          go_enter Tryd.func32, Tryd.ntmps32
          go_wp2_with (first | ((with_reducible refine gate_dst (N := 1) rfl ?_); refine box_event ?hg (N := 1) ?hd (cs := #[.string a0_0, .int .u64 a0_1, .bool true, .string a0_3]) (t := 30) ?hr ?_; (case hd => rfl); (case hg => rfl); (case hr => first | (go_simp; done) | (go_simp; rfl)); intro gb157 hg w13 hbox hb; have n0_ := Aside0.mk (below_step (by repeat (first | (with_reducible first | exact HB.out | apply below_alloc | apply pw_below_drewN | apply below_drew1) | exact HB.out)) hb); have n1_ := Aside0.mk (hbox); have n2_ := Aside0.mk ((by rw [hg]; exact (below_size (by repeat (first | (with_reducible first | exact HB.out | apply below_alloc | apply pw_below_drewN | apply below_drew1) | exact HB.out))) : w.heap.size ≤ gb157)); have n3_ := Aside0.mk ((by rw [hg]; exact (below_size (by repeat (first | (with_reducible first | exact HB.out | apply below_alloc | apply pw_below_drewN | apply below_drew1) | exact HB.out))) : w.heap.size ≤ gb157)); clear HB; have HB := n0_; have BK157 := n1_; have GW157 := n2_; have GE157 := n3_; clear n0_ n1_ n2_ n3_; clear hb hbox hg; have hcz14_0 : w13.cell? ⟨gb157, 0, none⟩ = some (.string a0_0) := (blk_cell BK157.out 0).trans rfl; have hcz14_1 : w13.cell? ⟨gb157, 1, none⟩ = some (.int .u64 a0_1) := (blk_cell BK157.out 1).trans rfl; have hcz14_2 : w13.cell? ⟨gb157, 2, none⟩ = some (.bool true) := (blk_cell BK157.out 2).trans rfl; have hcz14_3 : w13.cell? ⟨gb157, 3, none⟩ = some (.string a0_3) := (blk_cell BK157.out 3).trans rfl; have hfz14_0 := blk_frozen BK157.out 0; have hfz14_1 := blk_frozen BK157.out 1; have hfz14_2 := blk_frozen BK157.out 2; have hfz14_3 := blk_frozen BK157.out 3) | ((with_reducible refine gate_dst (N := 11) rfl ?_); refine Kd.R_lit k112 _ 112 ?hg (N := 11) ?hd (xs := ([(⟨a0_0, true, a0_3⟩ : S112)] : List (S112))) (inner := [.string a0_0, .bool true, .string a0_3]) (ok := fun _ => True) (okp := fun _ => True) ?hr ?hp (fun _ hk => hk) trivial (Below.refl _ _) (Nat.le_refl _) (by simp) ?_; (case hd => rfl); (case hg => rfl); (case hr => first | (go_simp; done) | (go_simp; rfl)); (case hp => exact (Reps.c3 (show Kd.M k112 _ _ _ (⟨a0_0, true, a0_3⟩ : S112) [.string a0_0, .bool true, .string a0_3] from (k112_mkM _ _ _ (⟨a0_0, true, a0_3⟩ : S112) )) (Reps.none _ _))); intro v159 w15 ho16 hb hg_ hnew_; clear hg_ hnew_; (first | rw [← Ny158.out] at ho16 | (simp only [Int.reduceToNat] at ho16; rw [← Ny158.out] at ho16)); have n0_ := Aside0.mk (Kd.R_lower ho16 (below_size (by repeat (first | (with_reducible first | exact HB.out | apply below_alloc | apply pw_below_drewN | apply below_drew1 | refine below_set ?_ GE157.out) | exact HB.out)))); have n1_ := Aside0.mk (blk_below (g := gb157) (o := .cells #[.string a0_0, .int .u64 a0_1, .bool true, .string a0_3] 30 (0, 0)) (by (with_reducible repeat (first | refine blk_drewN ?_ _ | refine blk_drew ?_ | refine blk_alloc ?_ _)); exact BK157.out) hb); have n2_ := Aside0.mk (below_step (by repeat (first | (with_reducible first | exact HB.out | apply below_alloc | apply pw_below_drewN | apply below_drew1 | refine below_set ?_ GE157.out) | exact HB.out)) hb); clear BK157; clear HB; have HO160 := n0_; have BK157 := n1_; have HB := n2_; clear n0_ n1_ n2_; clear hb ho16; obtain ⟨Ao17, co17, eo17⟩ := Kd.R_slice HO160.out; subst eo17) | ((with_reducible refine gate_callee (f := 65) rfl ?_); refine goesL_ (some 12) rfl rfl Tryd.func65 (by kernel_rfl) rfl #[.slice Ao17 y158.length co17] rfl (by (try simp only [List.map_toArray, List.map_cons, List.map_nil]); first | done | rfl | (simp only [List.length_drop, List.length_take]; rfl)) ?_; (with_reducible refine (screeref1_CheckBatch.calls k _ _ y158 t161 _ ?side1 ?side2 A2.out).mono ?_); (case side1 => repeat (first | exact (Kd.R_reads' HO160.out).2.2 | (with_reducible refine Kd.C_alloc ?_ _) | (with_reducible refine Kd.C_drewN ?_ _) | (with_reducible refine Kd.C_drew ?_))); (case side2 => exact (Kd.R_reads' HO160.out).2.1); rintro e w' ⟨rfl, ⟨nd, rfl⟩⟩; refine ⟨_, rfl, ?_⟩; have hcz18_0 : w15.cell? ⟨gb157, 0, none⟩ = some (.string a0_0) := (blk_cell BK157.out 0).trans rfl; have hcz18_1 : w15.cell? ⟨gb157, 1, none⟩ = some (.int .u64 a0_1) := (blk_cell BK157.out 1).trans rfl; have hcz18_2 : w15.cell? ⟨gb157, 2, none⟩ = some (.bool true) := (blk_cell BK157.out 2).trans rfl; have hcz18_3 : w15.cell? ⟨gb157, 3, none⟩ = some (.string a0_3) := (blk_cell BK157.out 3).trans rfl; have hfz18_0 := blk_frozen BK157.out 0; have hfz18_1 := blk_frozen BK157.out 1; have hfz18_2 := blk_frozen BK157.out 2; have hfz18_3 := blk_frozen BK157.out 3))
          go_ret
          exact ⟨by first | rfl | (simp [errW_none, errW_some] <;> rfl) | (simp [*, errW_none, errW_some] <;> rfl), by repeat (first | (with_reducible first | exact HB.out | apply below_alloc | apply pw_below_drewN | apply below_drew1 | refine below_set ?_ GE157.out) | exact HB.out)⟩
        · rw [if_neg c12] at H
          have c12b0 : (a0_3.toList == ([] : List UInt8)) = false := beq_eq_false_iff_ne.mpr c12
          have c12b1 : (a0_3.toList != ([] : List UInt8)) = true := bne_iff_ne.mpr c12
          obtain rfl := Option.some.inj H
          go_enter Tryd.func32, Tryd.ntmps32
          go_wp2_with (first | ((with_reducible refine gate_dst (N := 1) rfl ?_); refine box_event ?hg (N := 1) ?hd (cs := #[.string a0_0, .int .u64 a0_1, .bool true, .string a0_3]) (t := 30) ?hr ?_; (case hd => rfl); (case hg => rfl); (case hr => first | (go_simp; done) | (go_simp; rfl)); intro gb157 hg w19 hbox hb; have n0_ := Aside0.mk (below_step (by repeat (first | (with_reducible first | exact HB.out | apply below_alloc | apply pw_below_drewN | apply below_drew1) | exact HB.out)) hb); have n1_ := Aside0.mk (hbox); have n2_ := Aside0.mk ((by rw [hg]; exact (below_size (by repeat (first | (with_reducible first | exact HB.out | apply below_alloc | apply pw_below_drewN | apply below_drew1) | exact HB.out))) : w.heap.size ≤ gb157)); have n3_ := Aside0.mk ((by rw [hg]; exact (below_size (by repeat (first | (with_reducible first | exact HB.out | apply below_alloc | apply pw_below_drewN | apply below_drew1) | exact HB.out))) : w.heap.size ≤ gb157)); clear HB; have HB := n0_; have BK157 := n1_; have GW157 := n2_; have GE157 := n3_; clear n0_ n1_ n2_ n3_; clear hb hbox hg; have hcz20_0 : w19.cell? ⟨gb157, 0, none⟩ = some (.string a0_0) := (blk_cell BK157.out 0).trans rfl; have hcz20_1 : w19.cell? ⟨gb157, 1, none⟩ = some (.int .u64 a0_1) := (blk_cell BK157.out 1).trans rfl; have hcz20_2 : w19.cell? ⟨gb157, 2, none⟩ = some (.bool true) := (blk_cell BK157.out 2).trans rfl; have hcz20_3 : w19.cell? ⟨gb157, 3, none⟩ = some (.string a0_3) := (blk_cell BK157.out 3).trans rfl; have hfz20_0 := blk_frozen BK157.out 0; have hfz20_1 := blk_frozen BK157.out 1; have hfz20_2 := blk_frozen BK157.out 2; have hfz20_3 := blk_frozen BK157.out 3) | ((with_reducible refine gate_dst (N := 11) rfl ?_); refine Kd.R_lit k112 _ 112 ?hg (N := 11) ?hd (xs := ([(⟨a0_0, true, a0_3⟩ : S112)] : List (S112))) (inner := [.string a0_0, .bool true, .string a0_3]) (ok := fun _ => True) (okp := fun _ => True) ?hr ?hp (fun _ hk => hk) trivial (Below.refl _ _) (Nat.le_refl _) (by simp) ?_; (case hd => rfl); (case hg => rfl); (case hr => first | (go_simp; done) | (go_simp; rfl)); (case hp => exact (Reps.c3 (show Kd.M k112 _ _ _ (⟨a0_0, true, a0_3⟩ : S112) [.string a0_0, .bool true, .string a0_3] from (k112_mkM _ _ _ (⟨a0_0, true, a0_3⟩ : S112) )) (Reps.none _ _))); intro v159 w21 ho22 hb hg_ hnew_; clear hg_ hnew_; (first | rw [← Ny158.out] at ho22 | (simp only [Int.reduceToNat] at ho22; rw [← Ny158.out] at ho22)); have n0_ := Aside0.mk (Kd.R_lower ho22 (below_size (by repeat (first | (with_reducible first | exact HB.out | apply below_alloc | apply pw_below_drewN | apply below_drew1 | refine below_set ?_ GE157.out) | exact HB.out)))); have n1_ := Aside0.mk (blk_below (g := gb157) (o := .cells #[.string a0_0, .int .u64 a0_1, .bool true, .string a0_3] 30 (0, 0)) (by (with_reducible repeat (first | refine blk_drewN ?_ _ | refine blk_drew ?_ | refine blk_alloc ?_ _)); exact BK157.out) hb); have n2_ := Aside0.mk (below_step (by repeat (first | (with_reducible first | exact HB.out | apply below_alloc | apply pw_below_drewN | apply below_drew1 | refine below_set ?_ GE157.out) | exact HB.out)) hb); clear BK157; clear HB; have HO160 := n0_; have BK157 := n1_; have HB := n2_; clear n0_ n1_ n2_; clear hb ho22; obtain ⟨Ao23, co23, eo23⟩ := Kd.R_slice HO160.out; subst eo23) | ((with_reducible refine gate_callee (f := 65) rfl ?_); refine goesL_ (some 12) rfl rfl Tryd.func65 (by kernel_rfl) rfl #[.slice Ao23 y158.length co23] rfl (by (try simp only [List.map_toArray, List.map_cons, List.map_nil]); first | done | rfl | (simp only [List.length_drop, List.length_take]; rfl)) ?_; (with_reducible refine (screeref1_CheckBatch.calls k _ _ y158 t161 _ ?side1 ?side2 A2.out).mono ?_); (case side1 => repeat (first | exact (Kd.R_reads' HO160.out).2.2 | (with_reducible refine Kd.C_alloc ?_ _) | (with_reducible refine Kd.C_drewN ?_ _) | (with_reducible refine Kd.C_drew ?_))); (case side2 => exact (Kd.R_reads' HO160.out).2.1); rintro e w' ⟨rfl, ⟨nd, rfl⟩⟩; refine ⟨_, rfl, ?_⟩; have hcz24_0 : w21.cell? ⟨gb157, 0, none⟩ = some (.string a0_0) := (blk_cell BK157.out 0).trans rfl; have hcz24_1 : w21.cell? ⟨gb157, 1, none⟩ = some (.int .u64 a0_1) := (blk_cell BK157.out 1).trans rfl; have hcz24_2 : w21.cell? ⟨gb157, 2, none⟩ = some (.bool true) := (blk_cell BK157.out 2).trans rfl; have hcz24_3 : w21.cell? ⟨gb157, 3, none⟩ = some (.string a0_3) := (blk_cell BK157.out 3).trans rfl; have hfz24_0 := blk_frozen BK157.out 0; have hfz24_1 := blk_frozen BK157.out 1; have hfz24_2 := blk_frozen BK157.out 2; have hfz24_3 := blk_frozen BK157.out 3))
          go_ret
          exact ⟨by first | rfl | (simp [errW_none, errW_some] <;> rfl) | (simp [*, errW_none, errW_some] <;> rfl), by repeat (first | (with_reducible first | exact HB.out | apply below_alloc | apply pw_below_drewN | apply below_drew1 | refine below_set ?_ GE157.out) | exact HB.out)⟩
      · replace c11 := Bool.eq_false_iff.mpr c11
        subst c11
        have H1 : (some 0) = some r := by rw [if_neg (show ¬ (false = true) by decide)] at H; exact H
        clear H
        have H := H1
        clear H1
        obtain rfl := Option.some.inj H
        go_enter Tryd.func32, Tryd.ntmps32
        go_wp2_with (first | ((with_reducible refine gate_dst (N := 1) rfl ?_); refine box_event ?hg (N := 1) ?hd (cs := #[.string a0_0, .int .u64 a0_1, .bool false, .string a0_3]) (t := 30) ?hr ?_; (case hd => rfl); (case hg => rfl); (case hr => first | (go_simp; done) | (go_simp; rfl)); intro gb157 hg w25 hbox hb; have n0_ := Aside0.mk (below_step (by repeat (first | (with_reducible first | exact HB.out | apply below_alloc | apply pw_below_drewN | apply below_drew1) | exact HB.out)) hb); have n1_ := Aside0.mk (hbox); have n2_ := Aside0.mk ((by rw [hg]; exact (below_size (by repeat (first | (with_reducible first | exact HB.out | apply below_alloc | apply pw_below_drewN | apply below_drew1) | exact HB.out))) : w.heap.size ≤ gb157)); have n3_ := Aside0.mk ((by rw [hg]; exact (below_size (by repeat (first | (with_reducible first | exact HB.out | apply below_alloc | apply pw_below_drewN | apply below_drew1) | exact HB.out))) : w.heap.size ≤ gb157)); clear HB; have HB := n0_; have BK157 := n1_; have GW157 := n2_; have GE157 := n3_; clear n0_ n1_ n2_ n3_; clear hb hbox hg; have hcz26_0 : w25.cell? ⟨gb157, 0, none⟩ = some (.string a0_0) := (blk_cell BK157.out 0).trans rfl; have hcz26_1 : w25.cell? ⟨gb157, 1, none⟩ = some (.int .u64 a0_1) := (blk_cell BK157.out 1).trans rfl; have hcz26_2 : w25.cell? ⟨gb157, 2, none⟩ = some (.bool false) := (blk_cell BK157.out 2).trans rfl; have hcz26_3 : w25.cell? ⟨gb157, 3, none⟩ = some (.string a0_3) := (blk_cell BK157.out 3).trans rfl; have hfz26_0 := blk_frozen BK157.out 0; have hfz26_1 := blk_frozen BK157.out 1; have hfz26_2 := blk_frozen BK157.out 2; have hfz26_3 := blk_frozen BK157.out 3) | ((with_reducible refine gate_dst (N := 11) rfl ?_); refine Kd.R_lit k112 _ 112 ?hg (N := 11) ?hd (xs := ([(⟨a0_0, false, a0_3⟩ : S112)] : List (S112))) (inner := [.string a0_0, .bool false, .string a0_3]) (ok := fun _ => True) (okp := fun _ => True) ?hr ?hp (fun _ hk => hk) trivial (Below.refl _ _) (Nat.le_refl _) (by simp) ?_; (case hd => rfl); (case hg => rfl); (case hr => first | (go_simp; done) | (go_simp; rfl)); (case hp => exact (Reps.c3 (show Kd.M k112 _ _ _ (⟨a0_0, false, a0_3⟩ : S112) [.string a0_0, .bool false, .string a0_3] from (k112_mkM _ _ _ (⟨a0_0, false, a0_3⟩ : S112) )) (Reps.none _ _))); intro v159 w27 ho28 hb hg_ hnew_; clear hg_ hnew_; (first | rw [← Ny158.out] at ho28 | (simp only [Int.reduceToNat] at ho28; rw [← Ny158.out] at ho28)); have n0_ := Aside0.mk (Kd.R_lower ho28 (below_size (by repeat (first | (with_reducible first | exact HB.out | apply below_alloc | apply pw_below_drewN | apply below_drew1 | refine below_set ?_ GE157.out) | exact HB.out)))); have n1_ := Aside0.mk (blk_below (g := gb157) (o := .cells #[.string a0_0, .int .u64 a0_1, .bool false, .string a0_3] 30 (0, 0)) (by (with_reducible repeat (first | refine blk_drewN ?_ _ | refine blk_drew ?_ | refine blk_alloc ?_ _)); exact BK157.out) hb); have n2_ := Aside0.mk (below_step (by repeat (first | (with_reducible first | exact HB.out | apply below_alloc | apply pw_below_drewN | apply below_drew1 | refine below_set ?_ GE157.out) | exact HB.out)) hb); clear BK157; clear HB; have HO160 := n0_; have BK157 := n1_; have HB := n2_; clear n0_ n1_ n2_; clear hb ho28; obtain ⟨Ao29, co29, eo29⟩ := Kd.R_slice HO160.out; subst eo29) | ((with_reducible refine gate_callee (f := 65) rfl ?_); refine goesL_ (some 12) rfl rfl Tryd.func65 (by kernel_rfl) rfl #[.slice Ao29 y158.length co29] rfl (by (try simp only [List.map_toArray, List.map_cons, List.map_nil]); first | done | rfl | (simp only [List.length_drop, List.length_take]; rfl)) ?_; (with_reducible refine (screeref1_CheckBatch.calls k _ _ y158 t161 _ ?side1 ?side2 A2.out).mono ?_); (case side1 => repeat (first | exact (Kd.R_reads' HO160.out).2.2 | (with_reducible refine Kd.C_alloc ?_ _) | (with_reducible refine Kd.C_drewN ?_ _) | (with_reducible refine Kd.C_drew ?_))); (case side2 => exact (Kd.R_reads' HO160.out).2.1); rintro e w' ⟨rfl, ⟨nd, rfl⟩⟩; refine ⟨_, rfl, ?_⟩; have hcz30_0 : w27.cell? ⟨gb157, 0, none⟩ = some (.string a0_0) := (blk_cell BK157.out 0).trans rfl; have hcz30_1 : w27.cell? ⟨gb157, 1, none⟩ = some (.int .u64 a0_1) := (blk_cell BK157.out 1).trans rfl; have hcz30_2 : w27.cell? ⟨gb157, 2, none⟩ = some (.bool false) := (blk_cell BK157.out 2).trans rfl; have hcz30_3 : w27.cell? ⟨gb157, 3, none⟩ = some (.string a0_3) := (blk_cell BK157.out 3).trans rfl; have hfz30_0 := blk_frozen BK157.out 0; have hfz30_1 := blk_frozen BK157.out 1; have hfz30_2 := blk_frozen BK157.out 2; have hfz30_3 := blk_frozen BK157.out 3))
        go_ret
        exact ⟨by first | rfl | (simp [errW_none, errW_some] <;> rfl) | (simp [*, errW_none, errW_some] <;> rfl), by repeat (first | (with_reducible first | exact HB.out | apply below_alloc | apply pw_below_drewN | apply below_drew1 | refine below_set ?_ GE157.out) | exact HB.out)⟩
  · rw [if_neg c3] at H
    have c3b0 : (t161 == 0) = false := beq_eq_false_iff_ne.mpr c3
    have c3b1 : (t161 != 0) = true := bne_iff_ne.mpr c3
    obtain rfl := Option.some.inj H
    go_enter Tryd.func32, Tryd.ntmps32
    go_wp2_with (first | ((with_reducible refine gate_dst (N := 1) rfl ?_); refine box_event ?hg (N := 1) ?hd (cs := #[.string a0_0, .int .u64 a0_1, .bool a0_2, .string a0_3]) (t := 30) ?hr ?_; (case hd => rfl); (case hg => rfl); (case hr => first | (go_simp; done) | (go_simp; rfl)); intro gb157 hg w31 hbox hb; have n0_ := Aside0.mk (below_step (by repeat (first | (with_reducible first | exact HB.out | apply below_alloc | apply pw_below_drewN | apply below_drew1) | exact HB.out)) hb); have n1_ := Aside0.mk (hbox); have n2_ := Aside0.mk ((by rw [hg]; exact (below_size (by repeat (first | (with_reducible first | exact HB.out | apply below_alloc | apply pw_below_drewN | apply below_drew1) | exact HB.out))) : w.heap.size ≤ gb157)); have n3_ := Aside0.mk ((by rw [hg]; exact (below_size (by repeat (first | (with_reducible first | exact HB.out | apply below_alloc | apply pw_below_drewN | apply below_drew1) | exact HB.out))) : w.heap.size ≤ gb157)); clear HB; have HB := n0_; have BK157 := n1_; have GW157 := n2_; have GE157 := n3_; clear n0_ n1_ n2_ n3_; clear hb hbox hg; have hcz32_0 : w31.cell? ⟨gb157, 0, none⟩ = some (.string a0_0) := (blk_cell BK157.out 0).trans rfl; have hcz32_1 : w31.cell? ⟨gb157, 1, none⟩ = some (.int .u64 a0_1) := (blk_cell BK157.out 1).trans rfl; have hcz32_2 : w31.cell? ⟨gb157, 2, none⟩ = some (.bool a0_2) := (blk_cell BK157.out 2).trans rfl; have hcz32_3 : w31.cell? ⟨gb157, 3, none⟩ = some (.string a0_3) := (blk_cell BK157.out 3).trans rfl; have hfz32_0 := blk_frozen BK157.out 0; have hfz32_1 := blk_frozen BK157.out 1; have hfz32_2 := blk_frozen BK157.out 2; have hfz32_3 := blk_frozen BK157.out 3) | ((with_reducible refine gate_dst (N := 11) rfl ?_); refine Kd.R_lit k112 _ 112 ?hg (N := 11) ?hd (xs := ([(⟨a0_0, a0_2, a0_3⟩ : S112)] : List (S112))) (inner := [.string a0_0, .bool a0_2, .string a0_3]) (ok := fun _ => True) (okp := fun _ => True) ?hr ?hp (fun _ hk => hk) trivial (Below.refl _ _) (Nat.le_refl _) (by simp) ?_; (case hd => rfl); (case hg => rfl); (case hr => first | (go_simp; done) | (go_simp; rfl)); (case hp => exact (Reps.c3 (show Kd.M k112 _ _ _ (⟨a0_0, a0_2, a0_3⟩ : S112) [.string a0_0, .bool a0_2, .string a0_3] from (k112_mkM _ _ _ (⟨a0_0, a0_2, a0_3⟩ : S112) )) (Reps.none _ _))); intro v159 w33 ho34 hb hg_ hnew_; clear hg_ hnew_; (first | rw [← Ny158.out] at ho34 | (simp only [Int.reduceToNat] at ho34; rw [← Ny158.out] at ho34)); have n0_ := Aside0.mk (Kd.R_lower ho34 (below_size (by repeat (first | (with_reducible first | exact HB.out | apply below_alloc | apply pw_below_drewN | apply below_drew1 | refine below_set ?_ GE157.out) | exact HB.out)))); have n1_ := Aside0.mk (blk_below (g := gb157) (o := .cells #[.string a0_0, .int .u64 a0_1, .bool a0_2, .string a0_3] 30 (0, 0)) (by (with_reducible repeat (first | refine blk_drewN ?_ _ | refine blk_drew ?_ | refine blk_alloc ?_ _)); exact BK157.out) hb); have n2_ := Aside0.mk (below_step (by repeat (first | (with_reducible first | exact HB.out | apply below_alloc | apply pw_below_drewN | apply below_drew1 | refine below_set ?_ GE157.out) | exact HB.out)) hb); clear BK157; clear HB; have HO160 := n0_; have BK157 := n1_; have HB := n2_; clear n0_ n1_ n2_; clear hb ho34; obtain ⟨Ao35, co35, eo35⟩ := Kd.R_slice HO160.out; subst eo35) | ((with_reducible refine gate_callee (f := 65) rfl ?_); refine goesL_ (some 12) rfl rfl Tryd.func65 (by kernel_rfl) rfl #[.slice Ao35 y158.length co35] rfl (by (try simp only [List.map_toArray, List.map_cons, List.map_nil]); first | done | rfl | (simp only [List.length_drop, List.length_take]; rfl)) ?_; (with_reducible refine (screeref1_CheckBatch.calls k _ _ y158 t161 _ ?side1 ?side2 A2.out).mono ?_); (case side1 => repeat (first | exact (Kd.R_reads' HO160.out).2.2 | (with_reducible refine Kd.C_alloc ?_ _) | (with_reducible refine Kd.C_drewN ?_ _) | (with_reducible refine Kd.C_drew ?_))); (case side2 => exact (Kd.R_reads' HO160.out).2.1); rintro e w' ⟨rfl, ⟨nd, rfl⟩⟩; refine ⟨_, rfl, ?_⟩))
    go_ret
    exact ⟨by first | rfl | (simp [errW_none, errW_some] <;> rfl) | (simp [*, errW_none, errW_some] <;> rfl), by repeat (first | (with_reducible first | exact HB.out | apply below_alloc | apply pw_below_drewN | apply below_drew1 | refine below_set ?_ GE157.out) | exact HB.out)⟩
mutual
def screeref1_below.l0 : Nat → ByteArray → ByteArray → Int → Option (Bool)
  | 0, _, _, _ => none
  | k + 1, x0, x1, x5 => if x5 < (x0.size : Int) then (screeref1_below.j1 k x0 x1 x5 (decide (x5 < (x1.size : Int)))) else (screeref1_below.j1 k x0 x1 x5 false)
def screeref1_below.j1 : Nat → ByteArray → ByteArray → Int → Bool → Option (Bool)
  | 0, _, _, _, _ => none
  | k + 1, x0, x1, x5, x15 => if x15 = true then (if 0 ≤ x5 then (if x5 < (x0.size : Int) then (if x5 < (x1.size : Int) then (if (bt x0 x5) = (bt x1 x5) then (screeref1_below.l0 k x0 x1 (wrap64 (x5 + 1))) else (some (decide ((bt x0 x5) < (bt x1 x5))))) else (none)) else (none)) else (none)) else (some (decide ((x0.size : Int) < (x1.size : Int))))
end
def screeref1_below.f (k : Nat) (a0 : ByteArray) (a1 : ByteArray) : Option (Bool) := screeref1_below.l0 k a0 a1 0
theorem screeref1_below.mono_l : ∀ k, (∀ y0 y1 y2, LeO (screeref1_below.l0 k y0 y1 y2) (screeref1_below.l0 (k + 1) y0 y1 y2)) ∧ (∀ y0 y1 y2 y3, LeO (screeref1_below.j1 k y0 y1 y2 y3) (screeref1_below.j1 (k + 1) y0 y1 y2 y3))
  | 0 => ⟨fun _ _ _ r h => by simp [screeref1_below.l0] at h, fun _ _ _ _ r h => by simp [screeref1_below.j1] at h⟩
  | k + 1 => by
    obtain ⟨ih0, ih1⟩ := screeref1_below.mono_l k
    refine ⟨?_, ?_⟩
    · intro y0 y1 y2
      unfold screeref1_below.l0
      repeat' first
      | (with_reducible exact ih0 _ _ _)
      | (with_reducible exact ih1 _ _ _ _)
      | (with_reducible exact LeO.refl _)
      | (with_reducible exact LeO.none _)
      | (with_reducible refine LeO.ite ?_ ?_)
      | (with_reducible refine LeO.bind ?_ (fun _ => ?_))
      | exact ih0 _ _ _
      | exact ih1 _ _ _ _
      | exact LeO.none _
      | refine LeO.ite ?_ ?_
      | refine LeO.bind ?_ (fun _ => ?_)
    · intro y0 y1 y2 y3
      unfold screeref1_below.j1
      repeat' first
      | (with_reducible exact ih0 _ _ _)
      | (with_reducible exact ih1 _ _ _ _)
      | (with_reducible exact LeO.refl _)
      | (with_reducible exact LeO.none _)
      | (with_reducible refine LeO.ite ?_ ?_)
      | (with_reducible refine LeO.bind ?_ (fun _ => ?_))
      | exact ih0 _ _ _
      | exact ih1 _ _ _ _
      | exact LeO.none _
      | refine LeO.ite ?_ ?_
      | refine LeO.bind ?_ (fun _ => ?_)
theorem screeref1_below.mono : ∀ a0 a1 k, LeO (screeref1_below.f k a0 a1) (screeref1_below.f (k + 1) a0 a1) := by
  intro a0 a1 k
  obtain ⟨ih0, ih1⟩ := screeref1_below.mono_l k
  unfold screeref1_below.f
  repeat' first
      | (with_reducible exact ih0 _ _ _)
      | (with_reducible exact ih1 _ _ _ _)
      | (with_reducible exact LeO.refl _)
      | (with_reducible exact LeO.none _)
      | (with_reducible refine LeO.ite ?_ ?_)
      | (with_reducible refine LeO.bind ?_ (fun _ => ?_))
      | exact ih0 _ _ _
      | exact ih1 _ _ _ _
      | exact LeO.none _
      | refine LeO.ite ?_ ?_
      | refine LeO.bind ?_ (fun _ => ?_)
set_option maxHeartbeats 8000000 in
set_option maxRecDepth 100000 in
theorem screeref1_below.calls (k : Nat) (a0 : ByteArray) (a1 : ByteArray) (r : Bool) (w : World) (h : screeref1_below.f k a0 a1 = some r) :
    Calls Tryd.prog 84 #[.string a0, .string a1] w fun e w' => e = .returned (.bool r) ∧ Drawn0 w w' := by
  have H : (screeref1_below.l0 k a0 a1 0) = some r := h
  clear h
  have H' := Aside0.mk H
  clear H
  go_enter Tryd.func84, Tryd.ntmps84
  go_wp2
  repeat (go_quiet (fail); try go_wp2)
  go_loopg [5] k (fun kq v5 w' => ∃ (x5_1 : Int), v5 = .int .i64 x5_1 ∧ Aside0 (screeref1_below.l0 kq a0 a1 x5_1 = some r) ∧ Aside0 (kq ≤ k) ∧ Drawn0 w w')
  case atStart => exact ⟨(0), (by first | rfl | (simp; done) | (simp [*]; done)), H', ⟨Nat.le_refl _⟩, by repeat (first | exact Drawn0.refl _ | apply Drawn0.step)⟩
  case round =>
    clear H'
    try clear p2
    obtain ⟨x5_1, rfl, HA, HK1, ⟨m1, rfl⟩⟩ := hrel
    cases gk with
    | zero => exact absurd HA.out (by simp [screeref1_below.l0])
    | succ k1 =>
      have H := HA.out
      clear HA
      simp only [screeref1_below.l0] at H
      have HC3 := Aside0.mk H
      clear H
      go_upto_region 2 with (fail)
      repeat (go_quiet (fail); go_upto_region 2 with (fail))
      (try (obtain ⟨tb1_, hTB1_⟩ : ∃ tb_ : Bool, (decide (x5_1 < (a0.size : Int))) = tb_ := ⟨_, rfl⟩; simp only [hTB1_]; have TB1_ := Aside0.mk hTB1_; clear hTB1_))
      go_cut [15] (fun v15 wc => ∃ (kq : Nat) (x15_2 : Bool), v15 = .bool x15_2 ∧ Aside0 (screeref1_below.j1 kq a0 a1 x5_1 x15_2 = some r) ∧ Aside0 (kq ≤ k1) ∧ Drawn0 w wc)
      case first =>
        have H := HC3.out
        clear HC3
        by_cases c4 : x5_1 < (a0.size : Int)
        · rw [if_pos c4] at H
          have c4b0 : decide (x5_1 < (a0.size : Int)) = true := decide_eq_true c4
          (try (obtain rfl := TB1_.out.symm.trans c4b0))
          clear c4
          (first | rw [c4b0] | (simp only [i64_w, i32_w]; rw [c4b0]) | skip)
          have H' := Aside0.mk H
          clear H
          go_wp2
          repeat (go_quiet (fail); try go_wp2)
          go_meet
          case rel => exact ⟨_, (decide (x5_1 < (a1.size : Int))), (by first | rfl | (simp; done) | (simp [*]; done)), H', ⟨by have := HK1.out; first | omega | exact Nat.le_refl _⟩, by repeat (first | exact Drawn0.refl _ | apply Drawn0.step)⟩
        · rw [if_neg c4] at H
          have c4b0 : decide (x5_1 < (a0.size : Int)) = false := decide_eq_false c4
          (try (obtain rfl := TB1_.out.symm.trans c4b0))
          clear c4
          (first | rw [c4b0] | (simp only [i64_w, i32_w]; rw [c4b0]) | skip)
          have H' := Aside0.mk H
          clear H
          go_wp2
          repeat (go_quiet (fail); try go_wp2)
          go_meet
          case rel => exact ⟨_, (false), (by first | rfl | (simp; done) | (simp [*]; done)), H', ⟨by have := HK1.out; first | omega | exact Nat.le_refl _⟩, by repeat (first | exact Drawn0.refl _ | apply Drawn0.step)⟩
      case rest =>
        clear HC3
        try clear p2
        try clear c4
        try clear c4b0
        try clear p2
        obtain ⟨kq, x15_2, rfl, HA, HJ2, ⟨mc2, rfl⟩⟩ := hcut
        cases kq with
        | zero => exact absurd HA.out (by simp [screeref1_below.j1])
        | succ kj2 =>
          have H := HA.out
          clear HA
          simp only [screeref1_below.j1] at H
          by_cases c5 : x15_2 = true
          · subst c5
            have H1 : (if 0 ≤ x5_1 then (if x5_1 < (a0.size : Int) then (if x5_1 < (a1.size : Int) then (if (bt a0 x5_1) = (bt a1 x5_1) then (screeref1_below.l0 kj2 a0 a1 (wrap64 (x5_1 + 1))) else (some (decide ((bt a0 x5_1) < (bt a1 x5_1))))) else (none)) else (none)) else (none)) = some r := by rw [if_pos rfl] at H; exact H
            clear H
            have H := H1
            clear H1
            by_cases c6 : 0 ≤ x5_1
            · rw [if_pos c6] at H
              have c6b0 : decide (0 ≤ x5_1) = true := decide_eq_true c6
              clear c6
              by_cases c7 : x5_1 < (a0.size : Int)
              · rw [if_pos c7] at H
                have c7b0 : decide (x5_1 < (a0.size : Int)) = true := decide_eq_true c7
                clear c7
                by_cases c9 : x5_1 < (a1.size : Int)
                · rw [if_pos c9] at H
                  have c9b0 : decide (x5_1 < (a1.size : Int)) = true := decide_eq_true c9
                  clear c9
                  by_cases c11 : (bt a0 x5_1) = (bt a1 x5_1)
                  · rw [if_pos c11] at H
                    have c11b0 : ((bt a0 x5_1) == (bt a1 x5_1)) = true := beq_iff_eq.mpr c11
                    have c11b1 : ((bt a0 x5_1) != (bt a1 x5_1)) = false := bne_eq_false_iff_eq.mpr c11
                    clear c11
                    have H' := Aside0.mk H
                    clear H
                    have p8 : 0 ≤ (x5_1 : Int) := of_decide_eq_true (by first | (with_reducible assumption) | assumption)
                    have q8 : x5_1 < (a0.size : Int) := of_decide_eq_true (by first | (with_reducible assumption) | assumption)
                    have hx8 := bt_at a0 x5_1
                    replace p8 := eq_true p8
                    replace q8 := eq_true q8
                    have p10 : 0 ≤ (x5_1 : Int) := of_decide_eq_true (by first | (with_reducible assumption) | assumption)
                    have q10 : x5_1 < (a1.size : Int) := of_decide_eq_true (by first | (with_reducible assumption) | assumption)
                    have hx10 := bt_at a1 x5_1
                    replace p10 := eq_true p10
                    replace q10 := eq_true q10
                    go_wp2
                    repeat (go_quiet (fail); try go_wp2)
                    go_roundg kj2
                    case measure => have := HK1.out; have := HJ2.out; omega
                    case rel => exact ⟨(wrap64 (x5_1 + 1)), (by first | rfl | (simp; done) | (simp [*]; done)), H', ⟨by have := HK1.out; have := HJ2.out; omega⟩, by repeat (first | exact Drawn0.refl _ | apply Drawn0.step)⟩
                  · rw [if_neg c11] at H
                    have c11b0 : ((bt a0 x5_1) == (bt a1 x5_1)) = false := beq_eq_false_iff_ne.mpr c11
                    have c11b1 : ((bt a0 x5_1) != (bt a1 x5_1)) = true := bne_iff_ne.mpr c11
                    obtain rfl := Option.some.inj H
                    have p8 : 0 ≤ (x5_1 : Int) := of_decide_eq_true (by first | (with_reducible assumption) | assumption)
                    have q8 : x5_1 < (a0.size : Int) := of_decide_eq_true (by first | (with_reducible assumption) | assumption)
                    have hx8 := bt_at a0 x5_1
                    replace p8 := eq_true p8
                    replace q8 := eq_true q8
                    have p10 : 0 ≤ (x5_1 : Int) := of_decide_eq_true (by first | (with_reducible assumption) | assumption)
                    have q10 : x5_1 < (a1.size : Int) := of_decide_eq_true (by first | (with_reducible assumption) | assumption)
                    have hx10 := bt_at a1 x5_1
                    replace p10 := eq_true p10
                    replace q10 := eq_true q10
                    have p12 : 0 ≤ (x5_1 : Int) := of_decide_eq_true (by first | (with_reducible assumption) | assumption)
                    have q12 : x5_1 < (a0.size : Int) := of_decide_eq_true (by first | (with_reducible assumption) | assumption)
                    have hx12 := bt_at a0 x5_1
                    replace p12 := eq_true p12
                    replace q12 := eq_true q12
                    have p13 : 0 ≤ (x5_1 : Int) := of_decide_eq_true (by first | (with_reducible assumption) | assumption)
                    have q13 : x5_1 < (a1.size : Int) := of_decide_eq_true (by first | (with_reducible assumption) | assumption)
                    have hx13 := bt_at a1 x5_1
                    replace p13 := eq_true p13
                    replace q13 := eq_true q13
                    go_wp2
                    repeat (go_quiet (fail); try go_wp2)
                    go_ret
                    exact ⟨by first | rfl | (simp; done) | (simp [*]; done), by repeat (first | exact Drawn0.refl _ | apply Drawn0.step)⟩
                · rw [if_neg c9] at H
                  exact absurd H (by simp)
              · rw [if_neg c7] at H
                exact absurd H (by simp)
            · rw [if_neg c6] at H
              exact absurd H (by simp)
          · replace c5 := Bool.eq_false_iff.mpr c5
            subst c5
            have H1 : (some (decide ((a0.size : Int) < (a1.size : Int)))) = some r := by rw [if_neg (show ¬ (false = true) by decide)] at H; exact H
            clear H
            have H := H1
            clear H1
            obtain rfl := Option.some.inj H
            go_wp2
            repeat (go_quiet (fail); try go_wp2)
            go_ret
            exact ⟨by first | rfl | (simp; done) | (simp [*]; done), by repeat (first | exact Drawn0.refl _ | apply Drawn0.step)⟩
def screeref1_Compare.f (k : Nat) (a0_0 : ByteArray) (a0_1 : Int) (a0_2 : Bool) (a0_3 : ByteArray) (a1_0 : ByteArray) (a1_1 : Int) (a1_2 : Bool) (a1_3 : ByteArray) : Option (Int) := (screeref1_below.f k a0_0 a1_0).bind fun t164 => (if t164 = true then (some (-1)) else ((screeref1_below.f k a1_0 a0_0).bind fun t165 => (if t165 = true then (some 1) else (if a0_1 > a1_1 then (some (-1)) else (if a0_1 < a1_1 then (some 1) else (some 0))))))
theorem screeref1_Compare.mono : ∀ a0 a1 a2 a3 a4 a5 a6 a7 k, LeO (screeref1_Compare.f k a0 a1 a2 a3 a4 a5 a6 a7) (screeref1_Compare.f (k + 1) a0 a1 a2 a3 a4 a5 a6 a7) := by
  intro a0 a1 a2 a3 a4 a5 a6 a7 k
  unfold screeref1_Compare.f
  repeat' first
      | (with_reducible exact screeref1_below.mono _ _ _)
      | (with_reducible exact LeO.refl _)
      | (with_reducible exact LeO.none _)
      | (with_reducible refine LeO.ite ?_ ?_)
      | (with_reducible refine LeO.bind ?_ (fun _ => ?_))
      | exact screeref1_below.mono _ _ _
      | exact LeO.none _
      | refine LeO.ite ?_ ?_
      | refine LeO.bind ?_ (fun _ => ?_)
set_option maxHeartbeats 8000000 in
set_option maxRecDepth 100000 in
theorem screeref1_Compare.calls (k : Nat) (a0_0 : ByteArray) (a0_1 : Int) (a0_2 : Bool) (a0_3 : ByteArray) (a1_0 : ByteArray) (a1_1 : Int) (a1_2 : Bool) (a1_3 : ByteArray) (r : Int) (w : World) (h : screeref1_Compare.f k a0_0 a0_1 a0_2 a0_3 a1_0 a1_1 a1_2 a1_3 = some r) :
    Calls Tryd.prog 66 #[.agg #[.string a0_0, .int .u64 a0_1, .bool a0_2, .string a0_3], .agg #[.string a1_0, .int .u64 a1_1, .bool a1_2, .string a1_3]] w fun e w' => e = .returned (.int .i64 r) ∧ Below w.heap.size w w' := by
  have hu30 := Tryd.underlying30
  have HB := Aside0.mk (Below.refl w.heap.size w)
  have H : ((screeref1_below.f k a0_0 a1_0).bind fun t164 => (if t164 = true then (some (-1)) else ((screeref1_below.f k a1_0 a0_0).bind fun t165 => (if t165 = true then (some 1) else (if a0_1 > a1_1 then (some (-1)) else (if a0_1 < a1_1 then (some 1) else (some 0))))))) = some r := h
  clear h
  replace H := Option.bind_eq_some_iff.mp H
  obtain ⟨t164, A30, H⟩ := H
  replace H : (if t164 = true then (some (-1)) else ((screeref1_below.f k a1_0 a0_0).bind fun t165 => (if t165 = true then (some 1) else (if a0_1 > a1_1 then (some (-1)) else (if a0_1 < a1_1 then (some 1) else (some 0)))))) = some r := H
  have A3 := Aside0.mk A30
  clear A30
  by_cases c4 : t164 = true
  · subst c4
    have H1 : (some (-1)) = some r := by rw [if_pos rfl] at H; exact H
    clear H
    have H := H1
    clear H1
    obtain rfl := Option.some.inj H
    go_enter Tryd.func66, Tryd.ntmps66
    go_wp2_with (first | ((with_reducible refine gate_dst (N := 2) rfl ?_); refine box_event ?hg (N := 2) ?hd (cs := #[.string a0_0, .int .u64 a0_1, .bool a0_2, .string a0_3]) (t := 30) ?hr ?_; (case hd => rfl); (case hg => rfl); (case hr => first | (go_simp; done) | (go_simp; rfl)); intro gb162 hg w5 hbox hb; have n0_ := Aside0.mk (below_step (by repeat (first | (with_reducible first | exact HB.out | apply below_alloc | apply pw_below_drewN | apply below_drew1) | exact HB.out)) hb); have n1_ := Aside0.mk (hbox); have n2_ := Aside0.mk ((by rw [hg]; exact (below_size (by repeat (first | (with_reducible first | exact HB.out | apply below_alloc | apply pw_below_drewN | apply below_drew1) | exact HB.out))) : w.heap.size ≤ gb162)); have n3_ := Aside0.mk ((by rw [hg]; exact (below_size (by repeat (first | (with_reducible first | exact HB.out | apply below_alloc | apply pw_below_drewN | apply below_drew1) | exact HB.out))) : w.heap.size ≤ gb162)); clear HB; have HB := n0_; have BK162 := n1_; have GW162 := n2_; have GE162 := n3_; clear n0_ n1_ n2_ n3_; clear hb hbox hg) | ((with_reducible refine gate_dst (N := 3) rfl ?_); refine box_event ?hg (N := 3) ?hd (cs := #[.string a1_0, .int .u64 a1_1, .bool a1_2, .string a1_3]) (t := 30) ?hr ?_; (case hd => rfl); (case hg => rfl); (case hr => first | (go_simp; done) | (go_simp; rfl)); intro gb163 hg w6 hbox hb; have n0_ := Aside0.mk (blk_below (g := gb162) (o := .cells #[.string a0_0, .int .u64 a0_1, .bool a0_2, .string a0_3] 30 (0, 0)) (by (with_reducible repeat (first | refine blk_drewN ?_ _ | refine blk_drew ?_ | refine blk_alloc ?_ _)); exact BK162.out) hb); have n1_ := Aside0.mk (below_step (by repeat (first | (with_reducible first | exact HB.out | apply below_alloc | apply pw_below_drewN | apply below_drew1 | refine below_set ?_ GE162.out) | exact HB.out)) hb); have n2_ := Aside0.mk (hbox); have n3_ := Aside0.mk ((by rw [hg]; exact (below_size (by repeat (first | (with_reducible first | exact HB.out | apply below_alloc | apply pw_below_drewN | apply below_drew1 | refine below_set ?_ GE162.out) | exact HB.out))) : w.heap.size ≤ gb163)); have n4_ := Aside0.mk ((by rw [hg]; exact (below_size (by repeat (first | (with_reducible first | exact HB.out | apply below_alloc | apply pw_below_drewN | apply below_drew1 | refine below_set ?_ GE162.out) | exact HB.out))) : w.heap.size ≤ gb163)); have n5_ := Aside0.mk ((by rw [hg]; exact Nat.ne_of_lt (blk_lt (g := gb162) (o := .cells #[.string a0_0, .int .u64 a0_1, .bool a0_2, .string a0_3] 30 (0, 0)) (by (with_reducible repeat (first | refine blk_drewN ?_ _ | refine blk_drew ?_ | refine blk_alloc ?_ _)); exact BK162.out)) : gb162 ≠ gb163)); have n6_ := Aside0.mk ((by rw [hg]; exact Nat.ne_of_gt (blk_lt (g := gb162) (o := .cells #[.string a0_0, .int .u64 a0_1, .bool a0_2, .string a0_3] 30 (0, 0)) (by (with_reducible repeat (first | refine blk_drewN ?_ _ | refine blk_drew ?_ | refine blk_alloc ?_ _)); exact BK162.out)) : gb163 ≠ gb162)); clear BK162; clear HB; have BK162 := n0_; have HB := n1_; have BK163 := n2_; have GW163 := n3_; have GE163 := n4_; have NB162_163 := n5_; have NB163_162 := n6_; clear n0_ n1_ n2_ n3_ n4_ n5_ n6_; clear hb hbox hg; have hnb7 := NB162_163.out; have hnc7 := NB163_162.out; have hcz8_0 : w6.cell? ⟨gb162, 0, none⟩ = some (.string a0_0) := (blk_cell BK162.out 0).trans rfl; have hcz8_1 : w6.cell? ⟨gb162, 1, none⟩ = some (.int .u64 a0_1) := (blk_cell BK162.out 1).trans rfl; have hcz8_2 : w6.cell? ⟨gb162, 2, none⟩ = some (.bool a0_2) := (blk_cell BK162.out 2).trans rfl; have hcz8_3 : w6.cell? ⟨gb162, 3, none⟩ = some (.string a0_3) := (blk_cell BK162.out 3).trans rfl; have hfz8_0 := blk_frozen BK162.out 0; have hfz8_1 := blk_frozen BK162.out 1; have hfz8_2 := blk_frozen BK162.out 2; have hfz8_3 := blk_frozen BK162.out 3; have hcz9_0 : w6.cell? ⟨gb163, 0, none⟩ = some (.string a1_0) := (blk_cell BK163.out 0).trans rfl; have hcz9_1 : w6.cell? ⟨gb163, 1, none⟩ = some (.int .u64 a1_1) := (blk_cell BK163.out 1).trans rfl; have hcz9_2 : w6.cell? ⟨gb163, 2, none⟩ = some (.bool a1_2) := (blk_cell BK163.out 2).trans rfl; have hcz9_3 : w6.cell? ⟨gb163, 3, none⟩ = some (.string a1_3) := (blk_cell BK163.out 3).trans rfl; have hfz9_0 := blk_frozen BK163.out 0; have hfz9_1 := blk_frozen BK163.out 1; have hfz9_2 := blk_frozen BK163.out 2; have hfz9_3 := blk_frozen BK163.out 3) | ((with_reducible refine gate_callee (f := 84) rfl ?_); refine goesL_ (some 9) rfl rfl Tryd.func84 (by kernel_rfl) rfl #[.string a0_0, .string a1_0] rfl (by (try simp only [List.map_toArray, List.map_cons, List.map_nil]); first | done | rfl | (simp only [List.length_drop, List.length_take]; rfl)) ?_; (with_reducible refine (screeref1_below.calls k a0_0 a1_0 true _ A3.out).mono ?_); rintro e w' ⟨rfl, ⟨nd, rfl⟩⟩; refine ⟨_, rfl, ?_⟩))
    go_ret
    exact ⟨by first | rfl | (simp [errW_none, errW_some] <;> rfl) | (simp [*, errW_none, errW_some] <;> rfl), by repeat (first | (with_reducible first | exact HB.out | apply below_alloc | apply pw_below_drewN | apply below_drew1 | refine below_set ?_ GE162.out | refine below_set ?_ GE163.out) | exact HB.out)⟩
  · replace c4 := Bool.eq_false_iff.mpr c4
    subst c4
    have H1 : ((screeref1_below.f k a1_0 a0_0).bind fun t165 => (if t165 = true then (some 1) else (if a0_1 > a1_1 then (some (-1)) else (if a0_1 < a1_1 then (some 1) else (some 0))))) = some r := by rw [if_neg (show ¬ (false = true) by decide)] at H; exact H
    clear H
    have H := H1
    clear H1
    replace H := Option.bind_eq_some_iff.mp H
    obtain ⟨t165, A100, H⟩ := H
    replace H : (if t165 = true then (some 1) else (if a0_1 > a1_1 then (some (-1)) else (if a0_1 < a1_1 then (some 1) else (some 0)))) = some r := H
    have A10 := Aside0.mk A100
    clear A100
    by_cases c11 : t165 = true
    · subst c11
      have H1 : (some 1) = some r := by rw [if_pos rfl] at H; exact H
      clear H
      have H := H1
      clear H1
      obtain rfl := Option.some.inj H
      go_enter Tryd.func66, Tryd.ntmps66
      go_wp2_with (first | ((with_reducible refine gate_dst (N := 2) rfl ?_); refine box_event ?hg (N := 2) ?hd (cs := #[.string a0_0, .int .u64 a0_1, .bool a0_2, .string a0_3]) (t := 30) ?hr ?_; (case hd => rfl); (case hg => rfl); (case hr => first | (go_simp; done) | (go_simp; rfl)); intro gb162 hg w12 hbox hb; have n0_ := Aside0.mk (below_step (by repeat (first | (with_reducible first | exact HB.out | apply below_alloc | apply pw_below_drewN | apply below_drew1) | exact HB.out)) hb); have n1_ := Aside0.mk (hbox); have n2_ := Aside0.mk ((by rw [hg]; exact (below_size (by repeat (first | (with_reducible first | exact HB.out | apply below_alloc | apply pw_below_drewN | apply below_drew1) | exact HB.out))) : w.heap.size ≤ gb162)); have n3_ := Aside0.mk ((by rw [hg]; exact (below_size (by repeat (first | (with_reducible first | exact HB.out | apply below_alloc | apply pw_below_drewN | apply below_drew1) | exact HB.out))) : w.heap.size ≤ gb162)); clear HB; have HB := n0_; have BK162 := n1_; have GW162 := n2_; have GE162 := n3_; clear n0_ n1_ n2_ n3_; clear hb hbox hg) | ((with_reducible refine gate_dst (N := 3) rfl ?_); refine box_event ?hg (N := 3) ?hd (cs := #[.string a1_0, .int .u64 a1_1, .bool a1_2, .string a1_3]) (t := 30) ?hr ?_; (case hd => rfl); (case hg => rfl); (case hr => first | (go_simp; done) | (go_simp; rfl)); intro gb163 hg w13 hbox hb; have n0_ := Aside0.mk (blk_below (g := gb162) (o := .cells #[.string a0_0, .int .u64 a0_1, .bool a0_2, .string a0_3] 30 (0, 0)) (by (with_reducible repeat (first | refine blk_drewN ?_ _ | refine blk_drew ?_ | refine blk_alloc ?_ _)); exact BK162.out) hb); have n1_ := Aside0.mk (below_step (by repeat (first | (with_reducible first | exact HB.out | apply below_alloc | apply pw_below_drewN | apply below_drew1 | refine below_set ?_ GE162.out) | exact HB.out)) hb); have n2_ := Aside0.mk (hbox); have n3_ := Aside0.mk ((by rw [hg]; exact (below_size (by repeat (first | (with_reducible first | exact HB.out | apply below_alloc | apply pw_below_drewN | apply below_drew1 | refine below_set ?_ GE162.out) | exact HB.out))) : w.heap.size ≤ gb163)); have n4_ := Aside0.mk ((by rw [hg]; exact (below_size (by repeat (first | (with_reducible first | exact HB.out | apply below_alloc | apply pw_below_drewN | apply below_drew1 | refine below_set ?_ GE162.out) | exact HB.out))) : w.heap.size ≤ gb163)); have n5_ := Aside0.mk ((by rw [hg]; exact Nat.ne_of_lt (blk_lt (g := gb162) (o := .cells #[.string a0_0, .int .u64 a0_1, .bool a0_2, .string a0_3] 30 (0, 0)) (by (with_reducible repeat (first | refine blk_drewN ?_ _ | refine blk_drew ?_ | refine blk_alloc ?_ _)); exact BK162.out)) : gb162 ≠ gb163)); have n6_ := Aside0.mk ((by rw [hg]; exact Nat.ne_of_gt (blk_lt (g := gb162) (o := .cells #[.string a0_0, .int .u64 a0_1, .bool a0_2, .string a0_3] 30 (0, 0)) (by (with_reducible repeat (first | refine blk_drewN ?_ _ | refine blk_drew ?_ | refine blk_alloc ?_ _)); exact BK162.out)) : gb163 ≠ gb162)); clear BK162; clear HB; have BK162 := n0_; have HB := n1_; have BK163 := n2_; have GW163 := n3_; have GE163 := n4_; have NB162_163 := n5_; have NB163_162 := n6_; clear n0_ n1_ n2_ n3_ n4_ n5_ n6_; clear hb hbox hg; have hnb14 := NB162_163.out; have hnc14 := NB163_162.out; have hcz15_0 : w13.cell? ⟨gb162, 0, none⟩ = some (.string a0_0) := (blk_cell BK162.out 0).trans rfl; have hcz15_1 : w13.cell? ⟨gb162, 1, none⟩ = some (.int .u64 a0_1) := (blk_cell BK162.out 1).trans rfl; have hcz15_2 : w13.cell? ⟨gb162, 2, none⟩ = some (.bool a0_2) := (blk_cell BK162.out 2).trans rfl; have hcz15_3 : w13.cell? ⟨gb162, 3, none⟩ = some (.string a0_3) := (blk_cell BK162.out 3).trans rfl; have hfz15_0 := blk_frozen BK162.out 0; have hfz15_1 := blk_frozen BK162.out 1; have hfz15_2 := blk_frozen BK162.out 2; have hfz15_3 := blk_frozen BK162.out 3; have hcz16_0 : w13.cell? ⟨gb163, 0, none⟩ = some (.string a1_0) := (blk_cell BK163.out 0).trans rfl; have hcz16_1 : w13.cell? ⟨gb163, 1, none⟩ = some (.int .u64 a1_1) := (blk_cell BK163.out 1).trans rfl; have hcz16_2 : w13.cell? ⟨gb163, 2, none⟩ = some (.bool a1_2) := (blk_cell BK163.out 2).trans rfl; have hcz16_3 : w13.cell? ⟨gb163, 3, none⟩ = some (.string a1_3) := (blk_cell BK163.out 3).trans rfl; have hfz16_0 := blk_frozen BK163.out 0; have hfz16_1 := blk_frozen BK163.out 1; have hfz16_2 := blk_frozen BK163.out 2; have hfz16_3 := blk_frozen BK163.out 3) | ((with_reducible refine gate_callee (f := 84) rfl ?_); refine goesL_ (some 9) rfl rfl Tryd.func84 (by kernel_rfl) rfl #[.string a0_0, .string a1_0] rfl (by (try simp only [List.map_toArray, List.map_cons, List.map_nil]); first | done | rfl | (simp only [List.length_drop, List.length_take]; rfl)) ?_; (with_reducible refine (screeref1_below.calls k a0_0 a1_0 false _ A3.out).mono ?_); rintro e w' ⟨rfl, ⟨nd, rfl⟩⟩; refine ⟨_, rfl, ?_⟩) | ((with_reducible refine gate_callee (f := 84) rfl ?_); refine goesL_ (some 14) rfl rfl Tryd.func84 (by kernel_rfl) rfl #[.string a1_0, .string a0_0] rfl (by (try simp only [List.map_toArray, List.map_cons, List.map_nil]); first | done | rfl | (simp only [List.length_drop, List.length_take]; rfl)) ?_; (with_reducible refine (screeref1_below.calls k a1_0 a0_0 true _ A10.out).mono ?_); rintro e w' ⟨rfl, ⟨nd, rfl⟩⟩; refine ⟨_, rfl, ?_⟩))
      go_ret
      exact ⟨by first | rfl | (simp [errW_none, errW_some] <;> rfl) | (simp [*, errW_none, errW_some] <;> rfl), by repeat (first | (with_reducible first | exact HB.out | apply below_alloc | apply pw_below_drewN | apply below_drew1 | refine below_set ?_ GE162.out | refine below_set ?_ GE163.out) | exact HB.out)⟩
    · replace c11 := Bool.eq_false_iff.mpr c11
      subst c11
      have H1 : (if a0_1 > a1_1 then (some (-1)) else (if a0_1 < a1_1 then (some 1) else (some 0))) = some r := by rw [if_neg (show ¬ (false = true) by decide)] at H; exact H
      clear H
      have H := H1
      clear H1
      by_cases c17 : a0_1 > a1_1
      · rw [if_pos c17] at H
        have c17b0 : decide (a1_1 < a0_1) = true := decide_eq_true c17
        clear c17
        obtain rfl := Option.some.inj H
        go_enter Tryd.func66, Tryd.ntmps66
        go_wp2_with (first | ((with_reducible refine gate_dst (N := 2) rfl ?_); refine box_event ?hg (N := 2) ?hd (cs := #[.string a0_0, .int .u64 a0_1, .bool a0_2, .string a0_3]) (t := 30) ?hr ?_; (case hd => rfl); (case hg => rfl); (case hr => first | (go_simp; done) | (go_simp; rfl)); intro gb162 hg w18 hbox hb; have n0_ := Aside0.mk (below_step (by repeat (first | (with_reducible first | exact HB.out | apply below_alloc | apply pw_below_drewN | apply below_drew1) | exact HB.out)) hb); have n1_ := Aside0.mk (hbox); have n2_ := Aside0.mk ((by rw [hg]; exact (below_size (by repeat (first | (with_reducible first | exact HB.out | apply below_alloc | apply pw_below_drewN | apply below_drew1) | exact HB.out))) : w.heap.size ≤ gb162)); have n3_ := Aside0.mk ((by rw [hg]; exact (below_size (by repeat (first | (with_reducible first | exact HB.out | apply below_alloc | apply pw_below_drewN | apply below_drew1) | exact HB.out))) : w.heap.size ≤ gb162)); clear HB; have HB := n0_; have BK162 := n1_; have GW162 := n2_; have GE162 := n3_; clear n0_ n1_ n2_ n3_; clear hb hbox hg) | ((with_reducible refine gate_dst (N := 3) rfl ?_); refine box_event ?hg (N := 3) ?hd (cs := #[.string a1_0, .int .u64 a1_1, .bool a1_2, .string a1_3]) (t := 30) ?hr ?_; (case hd => rfl); (case hg => rfl); (case hr => first | (go_simp; done) | (go_simp; rfl)); intro gb163 hg w19 hbox hb; have n0_ := Aside0.mk (blk_below (g := gb162) (o := .cells #[.string a0_0, .int .u64 a0_1, .bool a0_2, .string a0_3] 30 (0, 0)) (by (with_reducible repeat (first | refine blk_drewN ?_ _ | refine blk_drew ?_ | refine blk_alloc ?_ _)); exact BK162.out) hb); have n1_ := Aside0.mk (below_step (by repeat (first | (with_reducible first | exact HB.out | apply below_alloc | apply pw_below_drewN | apply below_drew1 | refine below_set ?_ GE162.out) | exact HB.out)) hb); have n2_ := Aside0.mk (hbox); have n3_ := Aside0.mk ((by rw [hg]; exact (below_size (by repeat (first | (with_reducible first | exact HB.out | apply below_alloc | apply pw_below_drewN | apply below_drew1 | refine below_set ?_ GE162.out) | exact HB.out))) : w.heap.size ≤ gb163)); have n4_ := Aside0.mk ((by rw [hg]; exact (below_size (by repeat (first | (with_reducible first | exact HB.out | apply below_alloc | apply pw_below_drewN | apply below_drew1 | refine below_set ?_ GE162.out) | exact HB.out))) : w.heap.size ≤ gb163)); have n5_ := Aside0.mk ((by rw [hg]; exact Nat.ne_of_lt (blk_lt (g := gb162) (o := .cells #[.string a0_0, .int .u64 a0_1, .bool a0_2, .string a0_3] 30 (0, 0)) (by (with_reducible repeat (first | refine blk_drewN ?_ _ | refine blk_drew ?_ | refine blk_alloc ?_ _)); exact BK162.out)) : gb162 ≠ gb163)); have n6_ := Aside0.mk ((by rw [hg]; exact Nat.ne_of_gt (blk_lt (g := gb162) (o := .cells #[.string a0_0, .int .u64 a0_1, .bool a0_2, .string a0_3] 30 (0, 0)) (by (with_reducible repeat (first | refine blk_drewN ?_ _ | refine blk_drew ?_ | refine blk_alloc ?_ _)); exact BK162.out)) : gb163 ≠ gb162)); clear BK162; clear HB; have BK162 := n0_; have HB := n1_; have BK163 := n2_; have GW163 := n3_; have GE163 := n4_; have NB162_163 := n5_; have NB163_162 := n6_; clear n0_ n1_ n2_ n3_ n4_ n5_ n6_; clear hb hbox hg; have hnb20 := NB162_163.out; have hnc20 := NB163_162.out; have hcz21_0 : w19.cell? ⟨gb162, 0, none⟩ = some (.string a0_0) := (blk_cell BK162.out 0).trans rfl; have hcz21_1 : w19.cell? ⟨gb162, 1, none⟩ = some (.int .u64 a0_1) := (blk_cell BK162.out 1).trans rfl; have hcz21_2 : w19.cell? ⟨gb162, 2, none⟩ = some (.bool a0_2) := (blk_cell BK162.out 2).trans rfl; have hcz21_3 : w19.cell? ⟨gb162, 3, none⟩ = some (.string a0_3) := (blk_cell BK162.out 3).trans rfl; have hfz21_0 := blk_frozen BK162.out 0; have hfz21_1 := blk_frozen BK162.out 1; have hfz21_2 := blk_frozen BK162.out 2; have hfz21_3 := blk_frozen BK162.out 3; have hcz22_0 : w19.cell? ⟨gb163, 0, none⟩ = some (.string a1_0) := (blk_cell BK163.out 0).trans rfl; have hcz22_1 : w19.cell? ⟨gb163, 1, none⟩ = some (.int .u64 a1_1) := (blk_cell BK163.out 1).trans rfl; have hcz22_2 : w19.cell? ⟨gb163, 2, none⟩ = some (.bool a1_2) := (blk_cell BK163.out 2).trans rfl; have hcz22_3 : w19.cell? ⟨gb163, 3, none⟩ = some (.string a1_3) := (blk_cell BK163.out 3).trans rfl; have hfz22_0 := blk_frozen BK163.out 0; have hfz22_1 := blk_frozen BK163.out 1; have hfz22_2 := blk_frozen BK163.out 2; have hfz22_3 := blk_frozen BK163.out 3) | ((with_reducible refine gate_callee (f := 84) rfl ?_); refine goesL_ (some 9) rfl rfl Tryd.func84 (by kernel_rfl) rfl #[.string a0_0, .string a1_0] rfl (by (try simp only [List.map_toArray, List.map_cons, List.map_nil]); first | done | rfl | (simp only [List.length_drop, List.length_take]; rfl)) ?_; (with_reducible refine (screeref1_below.calls k a0_0 a1_0 false _ A3.out).mono ?_); rintro e w' ⟨rfl, ⟨nd, rfl⟩⟩; refine ⟨_, rfl, ?_⟩) | ((with_reducible refine gate_callee (f := 84) rfl ?_); refine goesL_ (some 14) rfl rfl Tryd.func84 (by kernel_rfl) rfl #[.string a1_0, .string a0_0] rfl (by (try simp only [List.map_toArray, List.map_cons, List.map_nil]); first | done | rfl | (simp only [List.length_drop, List.length_take]; rfl)) ?_; (with_reducible refine (screeref1_below.calls k a1_0 a0_0 false _ A10.out).mono ?_); rintro e w' ⟨rfl, ⟨nd, rfl⟩⟩; refine ⟨_, rfl, ?_⟩))
        go_ret
        exact ⟨by first | rfl | (simp [errW_none, errW_some] <;> rfl) | (simp [*, errW_none, errW_some] <;> rfl), by repeat (first | (with_reducible first | exact HB.out | apply below_alloc | apply pw_below_drewN | apply below_drew1 | refine below_set ?_ GE162.out | refine below_set ?_ GE163.out) | exact HB.out)⟩
      · rw [if_neg c17] at H
        have c17b0 : decide (a1_1 < a0_1) = false := decide_eq_false c17
        clear c17
        by_cases c23 : a0_1 < a1_1
        · rw [if_pos c23] at H
          have c23b0 : decide (a0_1 < a1_1) = true := decide_eq_true c23
          clear c23
          obtain rfl := Option.some.inj H
          go_enter Tryd.func66, Tryd.ntmps66
          go_wp2_with (first | ((with_reducible refine gate_dst (N := 2) rfl ?_); refine box_event ?hg (N := 2) ?hd (cs := #[.string a0_0, .int .u64 a0_1, .bool a0_2, .string a0_3]) (t := 30) ?hr ?_; (case hd => rfl); (case hg => rfl); (case hr => first | (go_simp; done) | (go_simp; rfl)); intro gb162 hg w24 hbox hb; have n0_ := Aside0.mk (below_step (by repeat (first | (with_reducible first | exact HB.out | apply below_alloc | apply pw_below_drewN | apply below_drew1) | exact HB.out)) hb); have n1_ := Aside0.mk (hbox); have n2_ := Aside0.mk ((by rw [hg]; exact (below_size (by repeat (first | (with_reducible first | exact HB.out | apply below_alloc | apply pw_below_drewN | apply below_drew1) | exact HB.out))) : w.heap.size ≤ gb162)); have n3_ := Aside0.mk ((by rw [hg]; exact (below_size (by repeat (first | (with_reducible first | exact HB.out | apply below_alloc | apply pw_below_drewN | apply below_drew1) | exact HB.out))) : w.heap.size ≤ gb162)); clear HB; have HB := n0_; have BK162 := n1_; have GW162 := n2_; have GE162 := n3_; clear n0_ n1_ n2_ n3_; clear hb hbox hg) | ((with_reducible refine gate_dst (N := 3) rfl ?_); refine box_event ?hg (N := 3) ?hd (cs := #[.string a1_0, .int .u64 a1_1, .bool a1_2, .string a1_3]) (t := 30) ?hr ?_; (case hd => rfl); (case hg => rfl); (case hr => first | (go_simp; done) | (go_simp; rfl)); intro gb163 hg w25 hbox hb; have n0_ := Aside0.mk (blk_below (g := gb162) (o := .cells #[.string a0_0, .int .u64 a0_1, .bool a0_2, .string a0_3] 30 (0, 0)) (by (with_reducible repeat (first | refine blk_drewN ?_ _ | refine blk_drew ?_ | refine blk_alloc ?_ _)); exact BK162.out) hb); have n1_ := Aside0.mk (below_step (by repeat (first | (with_reducible first | exact HB.out | apply below_alloc | apply pw_below_drewN | apply below_drew1 | refine below_set ?_ GE162.out) | exact HB.out)) hb); have n2_ := Aside0.mk (hbox); have n3_ := Aside0.mk ((by rw [hg]; exact (below_size (by repeat (first | (with_reducible first | exact HB.out | apply below_alloc | apply pw_below_drewN | apply below_drew1 | refine below_set ?_ GE162.out) | exact HB.out))) : w.heap.size ≤ gb163)); have n4_ := Aside0.mk ((by rw [hg]; exact (below_size (by repeat (first | (with_reducible first | exact HB.out | apply below_alloc | apply pw_below_drewN | apply below_drew1 | refine below_set ?_ GE162.out) | exact HB.out))) : w.heap.size ≤ gb163)); have n5_ := Aside0.mk ((by rw [hg]; exact Nat.ne_of_lt (blk_lt (g := gb162) (o := .cells #[.string a0_0, .int .u64 a0_1, .bool a0_2, .string a0_3] 30 (0, 0)) (by (with_reducible repeat (first | refine blk_drewN ?_ _ | refine blk_drew ?_ | refine blk_alloc ?_ _)); exact BK162.out)) : gb162 ≠ gb163)); have n6_ := Aside0.mk ((by rw [hg]; exact Nat.ne_of_gt (blk_lt (g := gb162) (o := .cells #[.string a0_0, .int .u64 a0_1, .bool a0_2, .string a0_3] 30 (0, 0)) (by (with_reducible repeat (first | refine blk_drewN ?_ _ | refine blk_drew ?_ | refine blk_alloc ?_ _)); exact BK162.out)) : gb163 ≠ gb162)); clear BK162; clear HB; have BK162 := n0_; have HB := n1_; have BK163 := n2_; have GW163 := n3_; have GE163 := n4_; have NB162_163 := n5_; have NB163_162 := n6_; clear n0_ n1_ n2_ n3_ n4_ n5_ n6_; clear hb hbox hg; have hnb26 := NB162_163.out; have hnc26 := NB163_162.out; have hcz27_0 : w25.cell? ⟨gb162, 0, none⟩ = some (.string a0_0) := (blk_cell BK162.out 0).trans rfl; have hcz27_1 : w25.cell? ⟨gb162, 1, none⟩ = some (.int .u64 a0_1) := (blk_cell BK162.out 1).trans rfl; have hcz27_2 : w25.cell? ⟨gb162, 2, none⟩ = some (.bool a0_2) := (blk_cell BK162.out 2).trans rfl; have hcz27_3 : w25.cell? ⟨gb162, 3, none⟩ = some (.string a0_3) := (blk_cell BK162.out 3).trans rfl; have hfz27_0 := blk_frozen BK162.out 0; have hfz27_1 := blk_frozen BK162.out 1; have hfz27_2 := blk_frozen BK162.out 2; have hfz27_3 := blk_frozen BK162.out 3; have hcz28_0 : w25.cell? ⟨gb163, 0, none⟩ = some (.string a1_0) := (blk_cell BK163.out 0).trans rfl; have hcz28_1 : w25.cell? ⟨gb163, 1, none⟩ = some (.int .u64 a1_1) := (blk_cell BK163.out 1).trans rfl; have hcz28_2 : w25.cell? ⟨gb163, 2, none⟩ = some (.bool a1_2) := (blk_cell BK163.out 2).trans rfl; have hcz28_3 : w25.cell? ⟨gb163, 3, none⟩ = some (.string a1_3) := (blk_cell BK163.out 3).trans rfl; have hfz28_0 := blk_frozen BK163.out 0; have hfz28_1 := blk_frozen BK163.out 1; have hfz28_2 := blk_frozen BK163.out 2; have hfz28_3 := blk_frozen BK163.out 3) | ((with_reducible refine gate_callee (f := 84) rfl ?_); refine goesL_ (some 9) rfl rfl Tryd.func84 (by kernel_rfl) rfl #[.string a0_0, .string a1_0] rfl (by (try simp only [List.map_toArray, List.map_cons, List.map_nil]); first | done | rfl | (simp only [List.length_drop, List.length_take]; rfl)) ?_; (with_reducible refine (screeref1_below.calls k a0_0 a1_0 false _ A3.out).mono ?_); rintro e w' ⟨rfl, ⟨nd, rfl⟩⟩; refine ⟨_, rfl, ?_⟩) | ((with_reducible refine gate_callee (f := 84) rfl ?_); refine goesL_ (some 14) rfl rfl Tryd.func84 (by kernel_rfl) rfl #[.string a1_0, .string a0_0] rfl (by (try simp only [List.map_toArray, List.map_cons, List.map_nil]); first | done | rfl | (simp only [List.length_drop, List.length_take]; rfl)) ?_; (with_reducible refine (screeref1_below.calls k a1_0 a0_0 false _ A10.out).mono ?_); rintro e w' ⟨rfl, ⟨nd, rfl⟩⟩; refine ⟨_, rfl, ?_⟩))
          go_ret
          exact ⟨by first | rfl | (simp [errW_none, errW_some] <;> rfl) | (simp [*, errW_none, errW_some] <;> rfl), by repeat (first | (with_reducible first | exact HB.out | apply below_alloc | apply pw_below_drewN | apply below_drew1 | refine below_set ?_ GE162.out | refine below_set ?_ GE163.out) | exact HB.out)⟩
        · rw [if_neg c23] at H
          have c23b0 : decide (a0_1 < a1_1) = false := decide_eq_false c23
          clear c23
          obtain rfl := Option.some.inj H
          go_enter Tryd.func66, Tryd.ntmps66
          go_wp2_with (first | ((with_reducible refine gate_dst (N := 2) rfl ?_); refine box_event ?hg (N := 2) ?hd (cs := #[.string a0_0, .int .u64 a0_1, .bool a0_2, .string a0_3]) (t := 30) ?hr ?_; (case hd => rfl); (case hg => rfl); (case hr => first | (go_simp; done) | (go_simp; rfl)); intro gb162 hg w29 hbox hb; have n0_ := Aside0.mk (below_step (by repeat (first | (with_reducible first | exact HB.out | apply below_alloc | apply pw_below_drewN | apply below_drew1) | exact HB.out)) hb); have n1_ := Aside0.mk (hbox); have n2_ := Aside0.mk ((by rw [hg]; exact (below_size (by repeat (first | (with_reducible first | exact HB.out | apply below_alloc | apply pw_below_drewN | apply below_drew1) | exact HB.out))) : w.heap.size ≤ gb162)); have n3_ := Aside0.mk ((by rw [hg]; exact (below_size (by repeat (first | (with_reducible first | exact HB.out | apply below_alloc | apply pw_below_drewN | apply below_drew1) | exact HB.out))) : w.heap.size ≤ gb162)); clear HB; have HB := n0_; have BK162 := n1_; have GW162 := n2_; have GE162 := n3_; clear n0_ n1_ n2_ n3_; clear hb hbox hg) | ((with_reducible refine gate_dst (N := 3) rfl ?_); refine box_event ?hg (N := 3) ?hd (cs := #[.string a1_0, .int .u64 a1_1, .bool a1_2, .string a1_3]) (t := 30) ?hr ?_; (case hd => rfl); (case hg => rfl); (case hr => first | (go_simp; done) | (go_simp; rfl)); intro gb163 hg w30 hbox hb; have n0_ := Aside0.mk (blk_below (g := gb162) (o := .cells #[.string a0_0, .int .u64 a0_1, .bool a0_2, .string a0_3] 30 (0, 0)) (by (with_reducible repeat (first | refine blk_drewN ?_ _ | refine blk_drew ?_ | refine blk_alloc ?_ _)); exact BK162.out) hb); have n1_ := Aside0.mk (below_step (by repeat (first | (with_reducible first | exact HB.out | apply below_alloc | apply pw_below_drewN | apply below_drew1 | refine below_set ?_ GE162.out) | exact HB.out)) hb); have n2_ := Aside0.mk (hbox); have n3_ := Aside0.mk ((by rw [hg]; exact (below_size (by repeat (first | (with_reducible first | exact HB.out | apply below_alloc | apply pw_below_drewN | apply below_drew1 | refine below_set ?_ GE162.out) | exact HB.out))) : w.heap.size ≤ gb163)); have n4_ := Aside0.mk ((by rw [hg]; exact (below_size (by repeat (first | (with_reducible first | exact HB.out | apply below_alloc | apply pw_below_drewN | apply below_drew1 | refine below_set ?_ GE162.out) | exact HB.out))) : w.heap.size ≤ gb163)); have n5_ := Aside0.mk ((by rw [hg]; exact Nat.ne_of_lt (blk_lt (g := gb162) (o := .cells #[.string a0_0, .int .u64 a0_1, .bool a0_2, .string a0_3] 30 (0, 0)) (by (with_reducible repeat (first | refine blk_drewN ?_ _ | refine blk_drew ?_ | refine blk_alloc ?_ _)); exact BK162.out)) : gb162 ≠ gb163)); have n6_ := Aside0.mk ((by rw [hg]; exact Nat.ne_of_gt (blk_lt (g := gb162) (o := .cells #[.string a0_0, .int .u64 a0_1, .bool a0_2, .string a0_3] 30 (0, 0)) (by (with_reducible repeat (first | refine blk_drewN ?_ _ | refine blk_drew ?_ | refine blk_alloc ?_ _)); exact BK162.out)) : gb163 ≠ gb162)); clear BK162; clear HB; have BK162 := n0_; have HB := n1_; have BK163 := n2_; have GW163 := n3_; have GE163 := n4_; have NB162_163 := n5_; have NB163_162 := n6_; clear n0_ n1_ n2_ n3_ n4_ n5_ n6_; clear hb hbox hg; have hnb31 := NB162_163.out; have hnc31 := NB163_162.out; have hcz32_0 : w30.cell? ⟨gb162, 0, none⟩ = some (.string a0_0) := (blk_cell BK162.out 0).trans rfl; have hcz32_1 : w30.cell? ⟨gb162, 1, none⟩ = some (.int .u64 a0_1) := (blk_cell BK162.out 1).trans rfl; have hcz32_2 : w30.cell? ⟨gb162, 2, none⟩ = some (.bool a0_2) := (blk_cell BK162.out 2).trans rfl; have hcz32_3 : w30.cell? ⟨gb162, 3, none⟩ = some (.string a0_3) := (blk_cell BK162.out 3).trans rfl; have hfz32_0 := blk_frozen BK162.out 0; have hfz32_1 := blk_frozen BK162.out 1; have hfz32_2 := blk_frozen BK162.out 2; have hfz32_3 := blk_frozen BK162.out 3; have hcz33_0 : w30.cell? ⟨gb163, 0, none⟩ = some (.string a1_0) := (blk_cell BK163.out 0).trans rfl; have hcz33_1 : w30.cell? ⟨gb163, 1, none⟩ = some (.int .u64 a1_1) := (blk_cell BK163.out 1).trans rfl; have hcz33_2 : w30.cell? ⟨gb163, 2, none⟩ = some (.bool a1_2) := (blk_cell BK163.out 2).trans rfl; have hcz33_3 : w30.cell? ⟨gb163, 3, none⟩ = some (.string a1_3) := (blk_cell BK163.out 3).trans rfl; have hfz33_0 := blk_frozen BK163.out 0; have hfz33_1 := blk_frozen BK163.out 1; have hfz33_2 := blk_frozen BK163.out 2; have hfz33_3 := blk_frozen BK163.out 3) | ((with_reducible refine gate_callee (f := 84) rfl ?_); refine goesL_ (some 9) rfl rfl Tryd.func84 (by kernel_rfl) rfl #[.string a0_0, .string a1_0] rfl (by (try simp only [List.map_toArray, List.map_cons, List.map_nil]); first | done | rfl | (simp only [List.length_drop, List.length_take]; rfl)) ?_; (with_reducible refine (screeref1_below.calls k a0_0 a1_0 false _ A3.out).mono ?_); rintro e w' ⟨rfl, ⟨nd, rfl⟩⟩; refine ⟨_, rfl, ?_⟩) | ((with_reducible refine gate_callee (f := 84) rfl ?_); refine goesL_ (some 14) rfl rfl Tryd.func84 (by kernel_rfl) rfl #[.string a1_0, .string a0_0] rfl (by (try simp only [List.map_toArray, List.map_cons, List.map_nil]); first | done | rfl | (simp only [List.length_drop, List.length_take]; rfl)) ?_; (with_reducible refine (screeref1_below.calls k a1_0 a0_0 false _ A10.out).mono ?_); rintro e w' ⟨rfl, ⟨nd, rfl⟩⟩; refine ⟨_, rfl, ?_⟩))
          go_ret
          exact ⟨by first | rfl | (simp [errW_none, errW_some] <;> rfl) | (simp [*, errW_none, errW_some] <;> rfl), by repeat (first | (with_reducible first | exact HB.out | apply below_alloc | apply pw_below_drewN | apply below_drew1 | refine below_set ?_ GE162.out | refine below_set ?_ GE163.out) | exact HB.out)⟩
def screeref9_Above.f (k : Nat) (a0 : ByteArray) (a1 : ByteArray) : Option (Bool) := (screeref1_Compare.f k a0 0 false (⟨#[]⟩ : ByteArray) a1 0 false (⟨#[]⟩ : ByteArray)).bind fun t166 => (some (decide (t166 > 0)))
theorem screeref9_Above.mono : ∀ a0 a1 k, LeO (screeref9_Above.f k a0 a1) (screeref9_Above.f (k + 1) a0 a1) := by
  intro a0 a1 k
  unfold screeref9_Above.f
  repeat' first
      | (with_reducible exact screeref1_Compare.mono _ _ _ _ _ _ _ _ _)
      | (with_reducible exact LeO.refl _)
      | (with_reducible exact LeO.none _)
      | (with_reducible refine LeO.ite ?_ ?_)
      | (with_reducible refine LeO.bind ?_ (fun _ => ?_))
      | exact screeref1_Compare.mono _ _ _ _ _ _ _ _ _
      | exact LeO.none _
      | refine LeO.ite ?_ ?_
      | refine LeO.bind ?_ (fun _ => ?_)
set_option maxHeartbeats 8000000 in
set_option maxRecDepth 100000 in
theorem screeref9_Above.calls (k : Nat) (a0 : ByteArray) (a1 : ByteArray) (r : Bool) (w : World) (h : screeref9_Above.f k a0 a1 = some r) :
    Calls Tryd.prog 33 #[.string a0, .string a1] w fun e w' => e = .returned (.bool r) ∧ Below w.heap.size w w' := by
  have hu30 := Tryd.underlying30
  have HB := Aside0.mk (Below.refl w.heap.size w)
  have H : ((screeref1_Compare.f k a0 0 false (⟨#[]⟩ : ByteArray) a1 0 false (⟨#[]⟩ : ByteArray)).bind fun t166 => (some (decide (t166 > 0)))) = some r := h
  clear h
  replace H := Option.bind_eq_some_iff.mp H
  obtain ⟨t166, A30, H⟩ := H
  replace H : (some (decide (t166 > 0))) = some r := H
  have A3 := Aside0.mk A30
  clear A30
  obtain rfl := Option.some.inj H
  go_enter Tryd.func33, Tryd.ntmps33
  go_wp2_with (first | ((with_reducible refine gate_callee (f := 66) rfl ?_); refine goesL_ (some 9) rfl rfl Tryd.func66 (by kernel_rfl) rfl #[.agg #[.string a0, .int .u64 0, .bool false, .string (⟨#[]⟩ : ByteArray)], .agg #[.string a1, .int .u64 0, .bool false, .string (⟨#[]⟩ : ByteArray)]] rfl (by (try simp only [List.map_toArray, List.map_cons, List.map_nil]); first | done | rfl | (simp only [List.length_drop, List.length_take]; rfl)) ?_; (with_reducible refine (screeref1_Compare.calls k a0 0 false (⟨#[]⟩ : ByteArray) a1 0 false (⟨#[]⟩ : ByteArray) t166 _ A3.out).mono ?_); rintro e w4 ⟨rfl, hb⟩; refine ⟨_, rfl, ?_⟩; have n0_ := Aside0.mk (below_step (by repeat (first | (with_reducible first | exact HB.out | apply below_alloc | apply pw_below_drewN | apply below_drew1) | exact HB.out)) hb); clear HB; have HB := n0_; clear n0_; (try clear hb); (try clear hb2); (try clear hk); (try clear hi)))
  go_ret
  exact ⟨by first | rfl | (simp [errW_none, errW_some] <;> rfl) | (simp [*, errW_none, errW_some] <;> rfl), by repeat (first | (with_reducible first | exact HB.out | apply below_alloc | apply pw_below_drewN | apply below_drew1) | exact HB.out)⟩
end Go.Proofs.YtaonjmkfbfhanaaDoor.QBo
