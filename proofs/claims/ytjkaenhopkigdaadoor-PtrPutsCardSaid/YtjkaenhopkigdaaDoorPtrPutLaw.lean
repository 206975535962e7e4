/- The law PtrPuts, walked. -/
import Derived.Test.YtjkaenhopkigdaaDoorPtrOwn
import Derived.Test.YtjkaenhopkigdaaDoorPtrAlive
set_option linter.unusedVariables false
set_option linter.unusedSimpArgs false
namespace Go.Proofs.YtjkaenhopkigdaaDoor.PtrPutLaw
open Go Go.RowKit Go.Proofs.YtjkaenhopkigdaaDoor.K Go.Proofs.YtjkaenhopkigdaaDoor.EqKit Go.Proofs.YtjkaenhopkigdaaDoor.PtrKit Go.Proofs.YtjkaenhopkigdaaDoor.ArrKit Go.Proofs.YtjkaenhopkigdaaDoor.HeldKit Go.Proofs.YtjkaenhopkigdaaDoor.PtrAsk Go.Proofs.YtjkaenhopkigdaaDoor.ShaStep Go.Proofs.YtjkaenhopkigdaaDoor.ShaRef Go.Proofs.YtjkaenhopkigdaaDoor.ShaSum Go.Proofs.YtjkaenhopkigdaaDoor.PtrOf Go.Proofs.YtjkaenhopkigdaaDoor.RefCopy Go.Proofs.YtjkaenhopkigdaaDoor.WordPut Go.Proofs.YtjkaenhopkigdaaDoor.WordTake Go.Proofs.YtjkaenhopkigdaaDoor.PtrPut Go.Proofs.YtjkaenhopkigdaaDoor.PtrAlive Go.Proofs.YtjkaenhopkigdaaDoor.PtrOwn

theorem Held.past {S : Nat → Prop} {w w1 w2 : World} {os : List (Nat × Obj)} (h : Held w os w1) (hf : Fr S w1 w2) (h1 : ∀ r ∈ os, ¬ S r.1) (h2 : ∀ i, i < w.heap.size → ¬ S i) : Held w os w2 := ⟨fun r hr => hf.keep (h.1 r hr) (h1 r hr), h.2.then hf (fun i hi hs => h2 i hi hs)⟩

set_option maxHeartbeats 2000000 in
set_option maxRecDepth 100000 in
theorem puts_law (a0 : Option Addr) (n c : Nat) (p a b : Int) (s l : List UInt8) (w : World) (hl : l.length = n) (hrd : Rd w a0 l) (hn : n ≤ 140737488351232) (hs : s.length = 32) (ha : (Lit.int .i64 a).wf = true) (hb : (Lit.int .i64 b).wf = true) {tk tb : TypeId} (hK : Bk w 1 KC tk) (hB : Bk w 0 HB8 tb) :
    Calls Tryd.prog 6 #[.slice a0 n c, .int .i64 p, .agg (PC a b s).toArray] w fun e w' => e = .returned (.bool true) ∧ Fr0 w w' := by
  have HPU : Hid (∀ (W : World) (g cap : Nat) (cur : Array Value), Own W g n cap cur l → Calls Tryd.prog 23 #[.slice (some ⟨g, 0, none⟩) n cap, .int .i64 p, .agg (PC a b s).toArray] W fun e w' => e = .returned (.int .i64 (putE n p a b s)) ∧ (∃ cur', Own w' g n cap cur' (putL l n p a b s)) ∧ Fr (· = g) W w') := Lib.hid (fun W g cap cur h => own_put g n cap p a b s cur l W h hn hs ha hb)
  have HRP : Hid (∀ (W : World) (g cap : Nat) (cur : Array Value), Own W g n cap cur l → Calls Tryd.prog 24 #[.slice (some ⟨g, 0, none⟩) n cap, .int .i64 p, .agg (PC a b s).toArray] W fun e w' => e = .returned (.int .i64 (putE n p a b s)) ∧ (∃ cur', Own w' g n cap cur' (putL l n p a b s)) ∧ Fr (· = g) W w') := Lib.hid (fun W g cap cur h => own_rput g n cap p a b s cur l W h hn hs ha hb)
  have HTK : Hid (∀ (W : World) (g cap : Nat) (cur : Array Value), Own W g n cap cur l → Calls Tryd.prog 21 #[.slice (some ⟨g, 0, none⟩) n cap, .int .i64 p] W fun e w' => e = .returned (.tuple #[.agg (takeX l n p), .int .i64 (takeE l n p)]) ∧ Fr0 W w') := Lib.hid (fun W g cap cur h => own_take g n cap p cur l W h hn)
  have HRT : Hid (∀ (W : World) (g cap : Nat) (cur : Array Value), Own W g n cap cur l → Calls Tryd.prog 22 #[.slice (some ⟨g, 0, none⟩) n cap, .int .i64 p] W fun e w' => e = .returned (.tuple #[.agg (takeX l n p), .int .i64 (takeE l n p)]) ∧ Fr0 W w') := Lib.hid (fun W g cap cur h => own_rtake g n cap p cur l W h hn)
  have HCP : Hid (∀ W : World, Rd W a0 l → Calls Tryd.prog 20 #[.slice a0 n c] W (CopyPost n l W)) := Lib.hid (fun W h => copy_calls a0 n c l W hl h hn)
  have HPL : Hid ((putL l n p a b s).length = n) := Lib.hid (putL_length hl hs)
  have HSA : Hid (∀ (W : World) (g g' cap cap' : Nat), Rd W (some ⟨g, 0, none⟩) (putL l n p a b s) → Rd W (some ⟨g', 0, none⟩) (putL l n p a b s) → Calls Tryd.prog 25 #[.slice (some ⟨g, 0, none⟩) n cap, .slice (some ⟨g', 0, none⟩) n cap'] W fun e w' => e = .returned (.bool true) ∧ W = w') := Lib.hid (fun W g g' cap cap' h1 h2 => by
    have := same_calls (some ⟨g, 0, none⟩) (some ⟨g', 0, none⟩) n n cap cap' _ _ W HPL.out h1 HPL.out h2
    rw [decide_eq_true (rfl : putL l n p a b s = putL l n p a b s)] at this
    exact this)
  have HI : Hid ((Tryd.prog.info? 26).map (·.size) = some (takeX l n p).size) := Lib.hid (by rw [info_p, takeX_size l n p hl])
  have HZ : Hid (ZERO.size = (takeX l n p).size) := Lib.hid ((show ZERO.size = 34 from rfl).trans (takeX_size l n p hl).symm)
  have HN : Hid ((takeX l n p).all (·.oneCell') = true) := Lib.hid (takeX_one l n p hl)
  have HEQ : Hid (∀ W, (Op.equalIn 10000 26 (.agg (takeX l n p)) (.agg (takeX l n p))).run Tryd.prog W = .ok true W) := Lib.hid (takeX_eq l n p hl)
  have HIY : Hid ((Tryd.prog.info? 26).map (·.size) = some (PC a b s).toArray.size) := Lib.hid (by rw [info_p, List.size_toArray, PC_length, hs])
  generalize takeX l n p = X at *
  generalize takeE l n p = E at *
  generalize putE n p a b s = E2 at *
  generalize putL l n p a b s = l2 at *
  generalize (PC a b s).toArray = Y at *
  have HF0 : Hid (Fr0 w (w.alloc (.cells Y 26))) := Lib.hid (Fr.alloc (Fr.refl _ _) _)
  have HY0 : Hid (Bk (w.alloc (.cells Y 26)) w.heap.size Y 26) := Lib.hid (Bk.new w _)
  have HR0 : Hid (Rd (w.alloc (.cells Y 26)) a0 l) := Lib.hid (hrd.later HF0.out (fun _ _ h => h))
  have HK0 : Hid (Bk (w.alloc (.cells Y 26)) 1 KC tk) := Lib.hid (Bk.alloc hK _)
  have HB0 : Hid (Bk (w.alloc (.cells Y 26)) 0 HB8 tb) := Lib.hid (Bk.alloc hB _)
  clear hs ha hb hK hB hl hrd
  go_enter Tryd.func6, Tryd.ntmps6
  go_wp2_with (first | (go_at_call 9; (with_reducible refine (alive_calls _ HK0.out HB0.out).mono ?_); rintro e w1 ⟨rfl, hf1⟩; have HF1 := Lib.hid (HF0.out.then0 hf1); have HY1 := Lib.hid (hf1.keep HY0.out (fun h => h)); have HR1 := Lib.hid (HR0.out.later hf1 (fun _ _ h => h)); clear hf1))
  refine (HCP.out _ HR1.out).mono ?_
  rintro e w2 ⟨g, cap, cur, rfl, hge, hown, hf2⟩
  have HF2 := Lib.hid (HF1.out.then0 hf2)
  have HY2 := Lib.hid (hf2.keep HY1.out (fun h => h))
  have HR2 := Lib.hid (HR1.out.later hf2 (fun _ _ h => h))
  have HO2 := Lib.hid hown
  have HGE : Hid (w1.heap.size ≤ g) := Lib.hid hge
  clear hf2 hown hge
  go_wp2_with fail
  refine (HCP.out _ HR2.out).mono ?_
  rintro e w3 ⟨g', cap', cur', rfl, hge', hown', hf3⟩
  have HF3 := Lib.hid (HF2.out.then0 hf3)
  have HY3 := Lib.hid (hf3.keep HY2.out (fun h => h))
  have HO3 : Hid (Own w3 g n cap cur l) := Lib.hid (HO2.out.keep hf3 (fun h => h))
  have HP3 := Lib.hid hown'
  have HGE' : Hid (w2.heap.size ≤ g') := Lib.hid hge'
  clear hf3 hown' hge'
  go_wp2_with (first | (go_at_call 21; (with_reducible refine (HTK.out _ g cap cur HO3.out).mono ?_); rintro e w4 ⟨rfl, hf4⟩; have HF4 := Lib.hid (HF3.out.then0 hf4); have HY4 := Lib.hid (hf4.keep HY3.out (fun h => h)); have HO4 : Hid (Own w4 g n cap cur l) := Lib.hid (HO3.out.keep hf4 (fun h => h)); have HP4 : Hid (Own w4 g' n cap' cur' l) := Lib.hid (HP3.out.keep hf4 (fun h => h)); have HQ4 : Hid (Bk (w4.alloc (.cells ZERO 26)) w4.heap.size ZERO 26) := Lib.hid (Bk.new _ _); clear hf4) | (refine wpList_store_row rfl 26 _ _ rfl w4.heap.size X rfl rfl 26 ZERO HQ4.out HI.out HZ.out HN.out ?_; change wpList _ _ _ _ _ ((w4.alloc (.cells ZERO 26)).setRow w4.heap.size X); have HQ5 : Hid (Bk ((w4.alloc (.cells ZERO 26)).setRow w4.heap.size X) w4.heap.size X 26) := Lib.hid (ArrKit.Bk.row HQ4.out _); have HY5 : Hid (Bk ((w4.alloc (.cells ZERO 26)).setRow w4.heap.size X) w.heap.size Y 26) := Lib.hid (ArrKit.Bk.rowOther (Bk.alloc HY4.out _) _ (by have := Bk.lt HY4.out; omega)); have hfx : Fr (fun i => i = w4.heap.size) w4 ((w4.alloc (.cells ZERO 26)).setRow w4.heap.size X) := ArrKit.Fr.row (Fr.alloc (Fr.refl _ _) _) _ _ (.inr rfl); have HO5 : Hid (Own ((w4.alloc (.cells ZERO 26)).setRow w4.heap.size X) g n cap cur l) := Lib.hid (HO4.out.keep hfx (Nat.ne_of_lt (Bk.lt HO4.out.blk))); have HP5 : Hid (Own ((w4.alloc (.cells ZERO 26)).setRow w4.heap.size X) g' n cap' cur' l) := Lib.hid (HP4.out.keep hfx (Nat.ne_of_lt (Bk.lt HP4.out.blk))); have HF5 : Hid (Fr0 w ((w4.alloc (.cells ZERO 26)).setRow w4.heap.size X)) := Lib.hid (ArrKit.Fr.row (Fr.alloc HF4.out _) _ _ (.inl HF4.out.size)); have HGQ : Hid (g < w4.heap.size) := Lib.hid (Bk.lt HO4.out.blk); have HGQ' : Hid (g' < w4.heap.size) := Lib.hid (Bk.lt HP4.out.blk); clear hfx; generalize (w4.alloc (.cells ZERO 26)).setRow w4.heap.size X = w5 at *; generalize w4.heap.size = G at *) | (go_at_call 22; (with_reducible refine (HRT.out _ g' cap' cur' HP5.out).mono ?_); rintro e w6 ⟨rfl, hf6⟩; have HF6 := Lib.hid (HF5.out.then0 hf6); have HY6 := Lib.hid (hf6.keep HY5.out (fun h => h)); have HQ6 := Lib.hid (hf6.keep HQ5.out (fun h => h)); have HO6 : Hid (Own w6 g n cap cur l) := Lib.hid (HO5.out.keep hf6 (fun h => h)); have HP6 : Hid (Own w6 g' n cap' cur' l) := Lib.hid (HP5.out.keep hf6 (fun h => h)); have HS6 : Hid (Bk (w6.alloc (.cells ZERO 26)) w6.heap.size ZERO 26) := Lib.hid (Bk.new _ _); clear hf6) | (refine wpList_store_row rfl 26 _ _ rfl w6.heap.size X rfl rfl 26 ZERO HS6.out HI.out HZ.out HN.out ?_; change wpList _ _ _ _ _ ((w6.alloc (.cells ZERO 26)).setRow w6.heap.size X); have HS7 : Hid (Bk ((w6.alloc (.cells ZERO 26)).setRow w6.heap.size X) w6.heap.size X 26) := Lib.hid (ArrKit.Bk.row HS6.out _); have HQ7 : Hid (Bk ((w6.alloc (.cells ZERO 26)).setRow w6.heap.size X) G X 26) := Lib.hid (ArrKit.Bk.rowOther (Bk.alloc HQ6.out _) _ (by have := Bk.lt HQ6.out; omega)); have HY7 : Hid (Bk ((w6.alloc (.cells ZERO 26)).setRow w6.heap.size X) w.heap.size Y 26) := Lib.hid (ArrKit.Bk.rowOther (Bk.alloc HY6.out _) _ (by have := Bk.lt HY6.out; omega)); have hfx : Fr (fun i => i = w6.heap.size) w6 ((w6.alloc (.cells ZERO 26)).setRow w6.heap.size X) := ArrKit.Fr.row (Fr.alloc (Fr.refl _ _) _) _ _ (.inr rfl); have HO7 : Hid (Own ((w6.alloc (.cells ZERO 26)).setRow w6.heap.size X) g n cap cur l) := Lib.hid (HO6.out.keep hfx (Nat.ne_of_lt (Bk.lt HO6.out.blk))); have HP7 : Hid (Own ((w6.alloc (.cells ZERO 26)).setRow w6.heap.size X) g' n cap' cur' l) := Lib.hid (HP6.out.keep hfx (Nat.ne_of_lt (Bk.lt HP6.out.blk))); have HF7 : Hid (Fr0 w ((w6.alloc (.cells ZERO 26)).setRow w6.heap.size X)) := Lib.hid (ArrKit.Fr.row (Fr.alloc HF6.out _) _ _ (.inl HF6.out.size)); have HGH : Hid (g < w6.heap.size ∧ g' < w6.heap.size) := Lib.hid ⟨Bk.lt HO6.out.blk, Bk.lt HP6.out.blk⟩; clear hfx; generalize (w6.alloc (.cells ZERO 26)).setRow w6.heap.size X = w7 at *; generalize w6.heap.size = H at *))
  have hgw : w.heap.size < g := by have h1 := HGE.out; have h2 := HF1.out.size; have h3 := Bk.lt HY1.out; omega
  have hgw' : w.heap.size < g' := by have h1 := HGE'.out; have h2 := HF2.out.size; have h3 := Bk.lt HY2.out; omega
  have HGG : Hid (g < g') := Lib.hid (by have h1 := HGE'.out; have h2 := Bk.lt HO2.out.blk; omega)
  have HD1 : Hid (Own w7.drew g n cap cur l) := Lib.hid HO7.out.drew
  have HD2 : Hid (Own w7.drew g' n cap' cur' l) := Lib.hid HP7.out.drew
  have H7 : Hid (Held w [(w.heap.size, .cells Y 26 (0, 0)), (G, .cells X 26 (0, 0)), (H, .cells X 26 (0, 0))] w7) := Lib.hid (Held.cons HY7.out (Held.cons HQ7.out (Held.cons HS7.out (Held.nil HF7.out))))
  have HS1 : Hid (∀ r ∈ [(w.heap.size, Obj.cells Y 26 (0, 0)), (G, .cells X 26 (0, 0)), (H, .cells X 26 (0, 0))], ¬ r.1 = g) := Lib.hid (by
    intro r hr
    simp only [List.mem_cons, List.not_mem_nil, or_false] at hr
    have h1 := HGQ.out; have h2 := HGH.out.1
    rcases hr with rfl | rfl | rfl <;> (show ¬ _ = g; omega))
  have HS2 : Hid (∀ r ∈ [(w.heap.size, Obj.cells Y 26 (0, 0)), (G, .cells X 26 (0, 0)), (H, .cells X 26 (0, 0))], ¬ r.1 = g') := Lib.hid (by
    intro r hr
    simp only [List.mem_cons, List.not_mem_nil, or_false] at hr
    have h1 := HGQ'.out; have h2 := HGH.out.2
    rcases hr with rfl | rfl | rfl <;> (show ¬ _ = g'; omega))
  have HT1 : Hid (∀ i, i < w.heap.size → ¬ i = g) := Lib.hid (fun i hi => by omega)
  have HT2 : Hid (∀ i, i < w.heap.size → ¬ i = g') := Lib.hid (fun i hi => by omega)
  refine wp_region_noPanic ?_
  refine wp_region_held_drew (S := (Held w [(w.heap.size, .cells Y 26 (0, 0)), (G, .cells X 26 (0, 0)), (H, .cells X 26 (0, 0))])) (by kernel_rfl) (Held.drew H7.out) (fun hHeld0 => ?_)
  change wpAnyH _ _ _ _ _ 10 #[false, false, false, false, false, false, false, false, false, false] _ _
  refine wpAnyH_take (i := 0) (v := .slice (some ⟨g, 0, none⟩) n cap) rfl (by kernel_rfl) (by kernel_rfl) (by kernel_rfl) (fun _ _ _ h => h) (Or.inl ⟨by kernel_rfl, fun w hSw => by first | kernel_rfl | (go_simp; done)⟩) hHeld0 ?_
  simp only [Act.put, List.setIfInBounds_toArray, List.set_cons_zero, List.set_cons_succ]
  change wpAnyH _ _ _ _ _ 9 #[true, false, false, false, false, false, false, false, false, false] _ _
  refine wpAnyH_take (i := 1) (v := .int .i64 p) rfl (by kernel_rfl) (by kernel_rfl) (by kernel_rfl) (fun _ _ _ h => h) (Or.inl ⟨by kernel_rfl, fun w hSw => by first | kernel_rfl | (go_simp; done)⟩) hHeld0 ?_
  simp only [Act.put, List.setIfInBounds_toArray, List.set_cons_zero, List.set_cons_succ]
  change wpAnyH _ _ _ _ _ 8 #[true, true, false, false, false, false, false, false, false, false] _ _
  refine wpAnyH_take (i := 2) (v := .agg Y) rfl (by kernel_rfl) (by kernel_rfl) (by kernel_rfl) (fun _ _ _ h => h) (yields_row (by kernel_rfl) 26 _ rfl (w.heap.size) rfl 26 Y (0, 0) _ (fun w h => Held.a0 h) Tryd.underlying26 rfl HIY.out) hHeld0 ?_
  simp only [Act.put, List.setIfInBounds_toArray, List.set_cons_zero, List.set_cons_succ]
  change wpAnyH _ _ _ _ _ 7 #[true, true, true, false, false, false, false, false, false, false] _ _
  refine wpAnyH_take (i := 4) (v := (.slice (some ⟨g', 0, none⟩) n cap')) rfl (by kernel_rfl) (by kernel_rfl) (by kernel_rfl) (fun _ _ _ h => h) (Or.inl ⟨by kernel_rfl, fun w hSw => by first | kernel_rfl | (go_simp; done)⟩) hHeld0 ?_
  simp only [Act.put, List.setIfInBounds_toArray, List.set_cons_zero, List.set_cons_succ]
  change wpAnyH _ _ _ _ _ 6 #[true, true, true, false, true, false, false, false, false, false] _ _
  refine wpAnyH_take (i := 5) (v := .int .i64 p) rfl (by kernel_rfl) (by kernel_rfl) (by kernel_rfl) (fun _ _ _ h => h) (Or.inl ⟨by kernel_rfl, fun w hSw => by first | kernel_rfl | (go_simp; done)⟩) hHeld0 ?_
  simp only [Act.put, List.setIfInBounds_toArray, List.set_cons_zero, List.set_cons_succ]
  change wpAnyH _ _ _ _ _ 5 #[true, true, true, false, true, true, false, false, false, false] _ _
  refine wpAnyH_take (i := 6) (v := .agg Y) rfl (by kernel_rfl) (by kernel_rfl) (by kernel_rfl) (fun _ _ _ h => h) (yields_row (by kernel_rfl) 26 _ rfl (w.heap.size) rfl 26 Y (0, 0) _ (fun w h => Held.a0 h) Tryd.underlying26 rfl HIY.out) hHeld0 ?_
  simp only [Act.put, List.setIfInBounds_toArray, List.set_cons_zero, List.set_cons_succ]
  change wpAnyH _ _ _ _ _ 4 #[true, true, true, false, true, true, true, false, false, false] _ _
  refine wpAnyH_ready (rs := [3]) (by kernel_rfl) (by simp) ?_
  refine AllReadyH.cons rfl (fun K hK => ?_) AllReadyH.nil
  simp only [List.getElem_toArray, List.getElem_cons_succ, List.getElem_cons_zero]
  refine (if_pos (by kernel_rfl)).mpr ?_
  go_wp2_with fail
  refine (HPU.out _ g cap cur HD1.out).mono ?_
  rintro e wx0 ⟨rfl, ⟨curx, hox⟩, hfx0⟩
  dsimp only
  have HX1 := Lib.hid hox
  have HX2 : Hid (Own wx0 g' n cap' cur' l) := Lib.hid (HD2.out.keep hfx0 (Nat.ne_of_gt HGG.out))
  clear hox
  refine hK.out _ _ (Held.past hHeld0 hfx0 HS1.out HT1.out) (fun hHeld1 => ?_)
  clear hK K hHeld0
  change wpAnyH _ _ _ _ _ 3 #[true, true, true, true, true, true, true, false, false, false] _ _
  refine wpAnyH_ready (rs := [7]) (by kernel_rfl) (by simp) ?_
  refine AllReadyH.cons rfl (fun K hK => ?_) AllReadyH.nil
  simp only [List.getElem_toArray, List.getElem_cons_succ, List.getElem_cons_zero]
  refine (if_pos (by kernel_rfl)).mpr ?_
  go_wp2_with fail
  refine (HRP.out _ g' cap' cur' HX2.out).mono ?_
  rintro e wx1 ⟨rfl, ⟨cury, hoy⟩, hfx1⟩
  dsimp only
  have HY2x := Lib.hid hoy
  have HY1x : Hid (Own wx1 g n cap curx l2) := Lib.hid (HX1.out.keep hfx1 (Nat.ne_of_lt HGG.out))
  clear hoy
  refine hK.out _ _ (Held.past hHeld1 hfx1 HS2.out HT2.out) (fun hHeld2 => ?_)
  clear hK K hHeld1
  change wpAnyH _ _ _ _ _ 2 #[true, true, true, true, true, true, true, true, false, false] _ _
  refine wpAnyH_take (i := 8) (v := .int .i64 E2) rfl (by kernel_rfl) (by kernel_rfl) (by kernel_rfl) (fun _ _ _ h => h) (Or.inl ⟨by kernel_rfl, fun w hSw => by first | kernel_rfl | (go_simp; done)⟩) hHeld2 ?_
  simp only [Act.put, List.setIfInBounds_toArray, List.set_cons_zero, List.set_cons_succ]
  change wpAnyH _ _ _ _ _ 1 #[true, true, true, true, true, true, true, true, true, false] _ _
  refine wpAnyH_take (i := 9) (v := .int .i64 E2) rfl (by kernel_rfl) (by kernel_rfl) (by kernel_rfl) (fun _ _ _ h => h) (Or.inl ⟨by kernel_rfl, fun w hSw => by first | kernel_rfl | (go_simp; done)⟩) hHeld2 ?_
  simp only [Act.put, List.setIfInBounds_toArray, List.set_cons_zero, List.set_cons_succ]
  change wpAnyH _ _ _ _ _ 0 #[true, true, true, true, true, true, true, true, true, true] _ _
  refine wpAnyH_done (by kernel_rfl) ?_ _
  refine NoPanic.normal ?_
  have HFIN := Lib.hid (Held.f hHeld2)
  have HEND := Lib.hid hHeld2
  clear hHeld2
  have heq := HEQ.out
  have HBQ := Lib.hid (Held.a0 (Held.tl HEND.out))
  have HBH := Lib.hid (Held.a0 (Held.tl (Held.tl HEND.out)))
  go_wp2_with (first | (refine wpList_load_row_g (by rfl) 26 _ rfl G rfl 26 X (0, 0) _ HBQ.out Tryd.underlying26 rfl HI.out ?_) | (refine wpList_load_row_g (by rfl) 26 _ rfl H rfl 26 X (0, 0) _ HBH.out Tryd.underlying26 rfl HI.out ?_) | (go_at_call 25; (with_reducible refine (HSA.out _ g g' cap cap' HY1x.out.rd HY2x.out.rd).mono ?_); rintro e w9 ⟨rfl, rfl⟩))
  all_goals go_ret
  exact ⟨by first | rfl | simp, HFIN.out⟩

end Go.Proofs.YtjkaenhopkigdaaDoor.PtrPutLaw
