/- Two disks of one's own, and a slice without room: the walks of twins and slices.Clip. -/
import Derived.Test.YtboakipfhidkmaaDiskCopy
set_option linter.unusedVariables false
set_option linter.unusedSimpArgs false
namespace Go.Proofs.Ytboakipfhidkmaa.DiskTwins
open Go Go.RowKit Go.Proofs.Ytboakipfhidkmaa.K Go.Proofs.Ytboakipfhidkmaa.EqKit Go.Proofs.Ytboakipfhidkmaa.ArrKit Go.Proofs.Ytboakipfhidkmaa.HeldKit Go.Proofs.Ytboakipfhidkmaa.GKit Go.Proofs.Ytboakipfhidkmaa.GRow Go.Proofs.Ytboakipfhidkmaa.DiskKit Go.Proofs.Ytboakipfhidkmaa.DiskAsk Go.Proofs.Ytboakipfhidkmaa.DiskForm Go.Proofs.Ytboakipfhidkmaa.DiskAct Go.Proofs.Ytboakipfhidkmaa.DiskNew Go.Proofs.Ytboakipfhidkmaa.DiskCopy

set_option maxHeartbeats 2000000 in
set_option maxRecDepth 100000 in
theorem clip_calls (ca : Option Addr) (n cc : Nat) (w : World) (hn : n ≤ cc) (hm : cc ≤ 9223372036854775807) : Calls Try.prog 35 #[.slice ca n cc] w fun e w' => e = .returned (.slice ca n n) ∧ w = w' := by
  cases ca with
  | none =>
    go_enter Try.func35, Try.ntmps35
    go_wp2
    go_ret
    exact ⟨rfl, rfl⟩
  | some x =>
    go_enter Try.func35, Try.ntmps35
    go_wp2
    go_ret
    exact ⟨rfl, rfl⟩
theorem results_cc {P : Program} {fn : Func} {p q : Tmp} {ty uy : TypeId} (h : fn.results = #[.cell p ty, .cell q uy]) (tmps : Array Value) (w : World) (g g' : Nat) (t t' : TypeId) (cs cs' : Array Value) (fr fr' : Nat × Nat) (d d' : TypeDesc)
    (hp : tmps.getD p undef = .pointer (some ⟨g, 0, none⟩)) (hq : tmps.getD q undef = .pointer (some ⟨g', 0, none⟩)) (hg : w.heap[g]? = some (.cells cs t fr)) (hg' : w.heap[g']? = some (.cells cs' t' fr'))
    (hu : P.underlying ty = some d) (hd : (match d with | .struct _ | .array _ _ => true | _ => false) = true) (hi : (P.info? ty).map (·.size) = some cs.size)
    (hu' : P.underlying uy = some d') (hd' : (match d' with | .struct _ | .array _ _ => true | _ => false) = true) (hi' : (P.info? uy).map (·.size) = some cs'.size) :
    (results fn tmps).run P w = .ok (.tuple #[.agg cs, .agg cs']) w := by
  have hp' : tmps[p]?.getD undef = .pointer (some ⟨g, 0, none⟩) := by simpa using hp
  have hq' : tmps[q]?.getD undef = .pointer (some ⟨g', 0, none⟩) := by simpa using hq
  simp [results, h, hp', hq', asAddr, run_loadVar_row w g t ty cs fr d hg hu hd hi, run_loadVar_row w g' t' uy cs' fr' d' hg' hu' hd' hi']
theorem fin_cc {P : Program} {fn : Func} {R : Ending → World → Prop} {a : Act} {w : World} {p q : Tmp} {ty uy : TypeId} (g g' : Nat) (t t' : TypeId) (cs cs' : Array Value) {d d' : TypeDesc}
    (h : fn.results = #[.cell p ty, .cell q uy]) (hp : a.tmps.getD p undef = .pointer (some ⟨g, 0, none⟩)) (hq : a.tmps.getD q undef = .pointer (some ⟨g', 0, none⟩)) (hds : a.defers = [])
    (hu : P.underlying ty = some d) (hd : (match d with | .struct _ | .array _ _ => true | _ => false) = true) (hi : (P.info? ty).map (·.size) = some cs.size)
    (hu' : P.underlying uy = some d') (hd' : (match d' with | .struct _ | .array _ _ => true | _ => false) = true) (hi' : (P.info? uy).map (·.size) = some cs'.size)
    (hg : w.heap[g]? = some (.cells cs t (0, 0))) (hg' : w.heap[g']? = some (.cells cs' t' (0, 0))) (hR : R (.returned (.tuple #[.agg cs, .agg cs'])) w) : bodyPost P fn R .ret a w :=
  bodyPost_ret (results_cc h _ _ g g' t t' cs cs' (0, 0) (0, 0) d d' hp hq hg hg' hu hd hi hu' hd' hi') hds hR
theorem DZ_no : ∀ (j : Nat) (x : Value), DZ[j]? = some x → ∀ v : UInt8, x ≠ B v := dc_no _ _ _ _ (by simp [B]) (by simp [B])
set_option maxHeartbeats 2000000 in
set_option maxRecDepth 100000 in
theorem twins_calls (d : Dk) (sa : Option Addr) (sc : Nat) (ca : Option Addr) (cc : Nat) (w : World) (hok : d.ok) (hv : DV w d sa sc ca cc) (hS : d.S.length * 130 ≤ 140737488355328) (hC : d.C.length * 136 ≤ 140737488355328) :
    Calls Try.prog 10 #[.agg (dval d sa sc ca cc)] w fun e w' => ∃ s1 n1 c1 m1 s2 n2 c2 m2, e = .returned (.tuple #[.agg (dval d s1 n1 c1 m1), .agg (dval d s2 n2 c2 m2)]) ∧ DV w' d s1 n1 c1 m1 ∧ DV w' d s2 n2 c2 m2 ∧ Fr0 w w' := by
  have hz : ∀ W, (zeroValue 25).run Try.prog W = .ok (.agg DZ) W := by intro W; kernel_rfl
  have HCP : Hid (∀ (W : World), DV W d sa sc ca cc → Calls Try.prog 28 #[.agg (dval d sa sc ca cc)] W fun e w' => ∃ sa' sc' ca' cc', e = .returned (.agg (dval d sa' sc' ca' cc')) ∧ DV w' d sa' sc' ca' cc' ∧ Fr0 W w') := Lib.hid (fun W h => copy_calls d sa sc ca cc W hok h hS hC)
  have HV := Lib.hid hv
  have HOK := Lib.hid hok
  have HDV : Hid (∀ a b c e, (dval d a b c e).size = 4 ∧ (dval d a b c e).all (·.oneCell') = true) := Lib.hid (fun _ _ _ _ => ⟨rfl, dval_one _ _ _ _ _⟩)
  have HID : Hid (∀ a b c e, (Try.prog.info? 25).map (·.size) = some (dval d a b c e).size) := Lib.hid (fun _ _ _ _ => info_d)
  clear hv hok hS hC
  generalize hX : dval d sa sc ca cc = X at *
  have HIX : Hid ((Try.prog.info? 25).map (·.size) = some X.size) := Lib.hid (by rw [← hX]; exact info_d)
  clear hX
  have hs1 : (w.alloc (.cells X 25)).heap.size = w.heap.size + 1 := by simp
  have hs2 : ((w.alloc (.cells X 25)).alloc (.cells DZ 25)).heap.size = w.heap.size + 1 + 1 := by simp
  have HX : Hid (Bk (((w.alloc (.cells X 25)).alloc (.cells DZ 25)).alloc (.cells DZ 25)) w.heap.size X 25) := Lib.hid (Bk.alloc (Bk.alloc (Bk.new w _) _) _)
  have HR1 : Hid (Bk (((w.alloc (.cells X 25)).alloc (.cells DZ 25)).alloc (.cells DZ 25)) (w.heap.size + 1) DZ 25) := Lib.hid (Bk.alloc (by have := Bk.new (w.alloc (.cells X 25)) (.cells DZ 25); rwa [hs1] at this) _)
  have HR2 : Hid (Bk (((w.alloc (.cells X 25)).alloc (.cells DZ 25)).alloc (.cells DZ 25)) (w.heap.size + 1 + 1) DZ 25) := Lib.hid (by have := Bk.new ((w.alloc (.cells X 25)).alloc (.cells DZ 25)) (.cells DZ 25); rwa [hs2] at this)
  have HF : Hid (Fr0 w (((w.alloc (.cells X 25)).alloc (.cells DZ 25)).alloc (.cells DZ 25))) := Lib.hid (Fr.alloc (Fr.alloc (Fr.alloc (Fr.refl _ _) _) _) _)
  clear hs1 hs2
  go_enter Try.func10, Try.ntmps10
  go_wp2
  generalize ((w.alloc (.cells X 25)).alloc (.cells DZ 25)).alloc (.cells DZ 25) = w0 at *
  have H0 : Hid (Held w [(w.heap.size, .cells X 25 (0, 0))] w0) := Lib.hid (Held.cons HX.out (Held.nil HF.out))
  have HR1 : Hid (Bk w0.drew (w.heap.size + 1) DZ 25) := Lib.hid HR1.out
  have HR2 : Hid (Bk w0.drew (w.heap.size + 1 + 1) DZ 25) := Lib.hid HR2.out
  refine wp_region_noPanic ?_
  refine wp_region_held_drew (S := (Held w [(w.heap.size, .cells X 25 (0, 0))])) (by kernel_rfl) (Held.drew H0.out) (fun hHeld0 => ?_)
  generalize w0.drew = w1 at *
  change wpAnyH _ _ _ _ _ 6 #[false, false, false, false, false, false] _ _
  refine wpAnyH_take (i := 0) (v := .agg X) rfl (by kernel_rfl) (by kernel_rfl) (by kernel_rfl) (fun _ _ _ h => h) (yields_row (by kernel_rfl) 25 _ rfl (w.heap.size) rfl 25 X (0, 0) _ (fun W h => Held.a0 h) Try.underlying25 rfl HIX.out) hHeld0 ?_
  simp only [Act.put, List.getElem_toArray, List.getElem_cons_succ, List.getElem_cons_zero, List.setIfInBounds_toArray, List.set_cons_zero, List.set_cons_succ]
  change wpAnyH _ _ _ _ _ 5 #[true, false, false, false, false, false] _ _
  refine wpAnyH_take (i := 2) (v := .agg X) rfl (by kernel_rfl) (by kernel_rfl) (by kernel_rfl) (fun _ _ _ h => h) (yields_row (by kernel_rfl) 25 _ rfl (w.heap.size) rfl 25 X (0, 0) _ (fun W h => Held.a0 h) Try.underlying25 rfl HIX.out) hHeld0 ?_
  simp only [Act.put, List.getElem_toArray, List.getElem_cons_succ, List.getElem_cons_zero, List.setIfInBounds_toArray, List.set_cons_zero, List.set_cons_succ]
  change wpAnyH _ _ _ _ _ 4 #[true, false, true, false, false, false] _ _
  refine wpAnyH_ready (rs := [1]) (by kernel_rfl) (by simp) ?_
  refine AllReadyH.cons rfl (fun K hK => ?_) AllReadyH.nil
  simp only [List.getElem_toArray, List.getElem_cons_succ, List.getElem_cons_zero]
  refine (if_pos (by kernel_rfl)).mpr ?_
  go_wp2_with fail
  refine (HCP.out _ (HV.out.keep hHeld0.2)).mono ?_
  rintro e wx0 ⟨s1, n1, c1, m1, rfl, hv1, hfx0⟩
  dsimp only
  have HV1 := Lib.hid hv1
  have HR11 := Lib.hid (Fr.keep hfx0 HR1.out (fun h => h))
  have HR21 := Lib.hid (Fr.keep hfx0 HR2.out (fun h => h))
  clear hv1
  refine hK.out _ _ (Held.keep hfx0 hHeld0) (fun hHeld1 => ?_)
  clear hK K hHeld0
  change wpAnyH _ _ _ _ _ 3 #[true, true, true, false, false, false] _ _
  refine wpAnyH_ready (rs := [3]) (by kernel_rfl) (by simp) ?_
  refine AllReadyH.cons rfl (fun K hK => ?_) AllReadyH.nil
  simp only [List.getElem_toArray, List.getElem_cons_succ, List.getElem_cons_zero]
  refine (if_pos (by kernel_rfl)).mpr ?_
  go_wp2_with fail
  refine (HCP.out _ (HV.out.keep hHeld1.2)).mono ?_
  rintro e wx1 ⟨s2, n2, c2, m2, rfl, hv2, hfx1⟩
  dsimp only
  have HV2 := Lib.hid hv2
  have HR12 := Lib.hid (Fr.keep hfx1 HR11.out (fun h => h))
  have HR22 := Lib.hid (Fr.keep hfx1 HR21.out (fun h => h))
  have HV12 := Lib.hid (HV1.out.keep hfx1)
  clear hv2
  refine hK.out _ _ (Held.keep hfx1 hHeld1) (fun hHeld2 => ?_)
  clear hK K hHeld1
  change wpAnyH _ _ _ _ _ 2 #[true, true, true, true, false, false] _ _
  refine wpAnyH_ready (rs := [4]) (by kernel_rfl) (by simp) ?_
  refine AllReadyH.cons rfl (fun K hK => ?_) AllReadyH.nil
  simp only [List.getElem_toArray, List.getElem_cons_succ, List.getElem_cons_zero]
  refine (if_pos (by kernel_rfl)).mpr ?_
  refine wp_store_row 25 _ _ rfl (w.heap.size + 1) (dval d s1 n1 c1 m1) rfl rfl 25 DZ HR12.out (HID.out _ _ _ _) rfl (HDV.out _ _ _ _).2 ?_
  refine hK.out _ _ (Held.cons (ArrKit.Bk.rowOther (Held.a0 hHeld2) _ (by omega)) (Held.nil (ArrKit.Fr.row hHeld2.2 _ _ (.inl (by omega))))) (fun hHeld3 => ?_)
  clear hK K hHeld2
  change wpAnyH _ _ _ _ _ 1 #[true, true, true, true, true, false] _ _
  have HR23 := Lib.hid (ArrKit.Bk.rowOther HR22.out (dval d s1 n1 c1 m1) (show w.heap.size + 1 + 1 ≠ w.heap.size + 1 by omega))
  refine wpAnyH_ready (rs := [5]) (by kernel_rfl) (by simp) ?_
  refine AllReadyH.cons rfl (fun K hK => ?_) AllReadyH.nil
  simp only [List.getElem_toArray, List.getElem_cons_succ, List.getElem_cons_zero]
  refine (if_pos (by kernel_rfl)).mpr ?_
  refine wp_store_row 25 _ _ rfl (w.heap.size + 1 + 1) (dval d s2 n2 c2 m2) rfl rfl 25 DZ HR23.out (HID.out _ _ _ _) rfl (HDV.out _ _ _ _).2 ?_
  refine hK.out _ _ (Held.cons (ArrKit.Bk.rowOther (Held.a0 hHeld3) _ (by omega)) (Held.nil (ArrKit.Fr.row hHeld3.2 _ _ (.inl (by omega))))) (fun hHeld4 => ?_)
  clear hK K hHeld3
  change wpAnyH _ _ _ _ _ 0 #[true, true, true, true, true, true] _ _
  refine wpAnyH_done (by kernel_rfl) ?_ _
  refine NoPanic.normal ?_
  have HFIN := Lib.hid (Held.f hHeld4)
  have HEND := Lib.hid hHeld4
  clear hHeld4
  go_wp2_with fail
  refine fin_cc (w.heap.size + 1) (w.heap.size + 1 + 1) 25 25 (dval d s1 n1 c1 m1) (dval d s2 n2 c2 m2) (by rfl) (by rfl) (by rfl) (by rfl) Try.underlying25 (by rfl) info_d Try.underlying25 (by rfl) info_d (ArrKit.Bk.rowOther (ArrKit.Bk.row HR12.out _) _ (by omega)) (ArrKit.Bk.row HR23.out _) ?_
  have a1 := DV.past HV12.out HOK.out (Fr.row1 _ (w.heap.size + 1) (dval d s1 n1 c1 m1)) HR12.out DZ_no
  have a2 := DV.past HV2.out HOK.out (Fr.row1 _ (w.heap.size + 1) (dval d s1 n1 c1 m1)) HR12.out DZ_no
  have b1 := DV.past a1 HOK.out (Fr.row1 _ (w.heap.size + 1 + 1) (dval d s2 n2 c2 m2)) HR23.out DZ_no
  have b2 := DV.past a2 HOK.out (Fr.row1 _ (w.heap.size + 1 + 1) (dval d s2 n2 c2 m2)) HR23.out DZ_no
  exact ⟨s1, n1, c1, m1, s2, n2, c2, m2, rfl, b1, b2, HFIN.out⟩

end Go.Proofs.Ytboakipfhidkmaa.DiskTwins
