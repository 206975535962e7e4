/- The theorems that the claim uses, text behind text (part 22). -/
import Derived.Test.YtmkmpfnadcmcoaaDoorXau
set_option maxRecDepth 100000
set_option linter.unusedVariables false
set_option linter.unusedSimpArgs false
namespace Go.Proofs.YtmkmpfnadcmcoaaDoor.DitGet
open Go Go.RowKit Go.Proofs.YtmkmpfnadcmcoaaDoor.K Go.Proofs.YtmkmpfnadcmcoaaDoor.EqKit Go.Proofs.YtmkmpfnadcmcoaaDoor.ArrKit Go.Proofs.YtmkmpfnadcmcoaaDoor.HeldKit Go.Proofs.YtmkmpfnadcmcoaaDoor.GKit Go.Proofs.YtmkmpfnadcmcoaaDoor.GRow Go.Proofs.YtmkmpfnadcmcoaaDoor.DiskKit Go.Proofs.YtmkmpfnadcmcoaaDoor.RmKit Go.Proofs.YtmkmpfnadcmcoaaDoor.MapKit Go.Proofs.YtmkmpfnadcmcoaaDoor.ShaStep Go.Proofs.YtmkmpfnadcmcoaaDoor.RmRight Go.Proofs.YtmkmpfnadcmcoaaDoor.RmTab Go.Proofs.YtmkmpfnadcmcoaaDoor.RmPut Go.Proofs.YtmkmpfnadcmcoaaDoor.RmAsk Go.Proofs.YtmkmpfnadcmcoaaDoor.RmSame Go.Proofs.YtmkmpfnadcmcoaaDoor.DiskRRead Go.Proofs.YtmkmpfnadcmcoaaDoor.RmRead Go.Proofs.YtmkmpfnadcmcoaaDoor.RmReads Go.Proofs.YtmkmpfnadcmcoaaDoor.DiskAct Go.Proofs.YtmkmpfnadcmcoaaDoor.RmSpare Go.Proofs.YtmkmpfnadcmcoaaDoor.RmKeep Go.Proofs.YtmkmpfnadcmcoaaDoor.RmAliveP Go.Proofs.YtmkmpfnadcmcoaaDoor.RmWrX Go.Proofs.YtmkmpfnadcmcoaaDoor.RmWrite Go.Proofs.YtmkmpfnadcmcoaaDoor.RmPair Go.Proofs.YtmkmpfnadcmcoaaDoor.RowG Go.Proofs.YtmkmpfnadcmcoaaDoor.PtrKit Go.Proofs.YtmkmpfnadcmcoaaDoor.DitKit Go.Proofs.YtmkmpfnadcmcoaaDoor.DitAsk Go.Proofs.YtmkmpfnadcmcoaaDoor.DitHome
theorem results_ctt {P : Program} {fn : Func} {p u v : Tmp} {ty : TypeId} (h : fn.results = #[.cell p ty, .tmp u, .tmp v]) (tmps : Array Value) (w : World) (g : Nat) (t : TypeId) (cs : Array Value) (fr : Nat × Nat) (d : TypeDesc)
    (hp : tmps.getD p undef = .pointer (some ⟨g, 0, none⟩)) (hg : w.heap[g]? = some (.cells cs t fr))
    (hu : P.underlying ty = some d) (hd : (match d with | .struct _ | .array _ _ => true | _ => false) = true) (hi : (P.info? ty).map (·.size) = some cs.size) :
    (results fn tmps).run P w = .ok (.tuple #[.agg cs, tmps.getD u undef, tmps.getD v undef]) w := by
  have hp' : tmps[p]?.getD undef = .pointer (some ⟨g, 0, none⟩) := by simpa using hp
  simp [results, h, hp', asAddr, run_loadVar_row w g t ty cs fr d hg hu hd hi]
theorem fin_ctt {P : Program} {fn : Func} {R : Ending → World → Prop} {a : Act} {w : World} {p u v : Tmp} {ty : TypeId} (g : Nat) (t : TypeId) (cs : Array Value) (x y : Value) {d : TypeDesc}
    (h : fn.results = #[.cell p ty, .tmp u, .tmp v]) (hp : a.tmps.getD p undef = .pointer (some ⟨g, 0, none⟩)) (hx : a.tmps.getD u undef = x) (hy : a.tmps.getD v undef = y) (hds : a.defers = [])
    (hu : P.underlying ty = some d) (hd : (match d with | .struct _ | .array _ _ => true | _ => false) = true) (hi : (P.info? ty).map (·.size) = some cs.size)
    (hg : w.heap[g]? = some (.cells cs t (0, 0))) (hR : R (.returned (.tuple #[.agg cs, x, y])) w) : bodyPost P fn R .ret a w := by
  subst hx hy
  exact bodyPost_ret (results_ctt h _ _ g t cs (0, 0) d hp hg hu hd hi) hds hR
/-- a row of numbers that is not empty, as it lies -/
theorem row_at {w : World} {base : Nat} {v : Value} {l : List Int} (h : Row FI 1 3 w base v l) (hl : 0 < l.length) : ∃ zb k, v = .slice (some ⟨zb, 0, none⟩) l.length k ∧ l.length ≤ k ∧ ∀ W, Fr0 w W → ∀ j (hj : j < l.length), W.cell? ⟨zb, j, none⟩ = some (.int .i64 l[j]) := by
  obtain ⟨z, k, hv, hle, -, hrd, -, hz⟩ := h.form
  obtain ⟨zb, zo, rfl, -, -⟩ := RdG.form hrd hl (fun _ => by simp [FI])
  have e := (hz _ rfl).2
  have e0 : zo = 0 := by injection e
  subst e0
  refine ⟨zb, k, hv, hle, fun W f j hj => ?_⟩
  have := RdG.at (RdG.keep hrd f) hj 0 (.int .i64 l[j]) rfl
  rwa [Nat.zero_add, Nat.mul_one, Nat.add_zero] at this
theorem cell_byte {w : World} {g k t : Nat} {l : List UInt8} {v : Value} (hb : Bk w g (l.map B).toArray t) (h : w.cell? ⟨g, k, none⟩ = some v) : ∃ x : UInt8, v = B x := by
  rw [Bk.cell hb, List.getElem?_toArray, List.getElem?_map] at h
  cases hx : l[k]? with
  | none => rw [hx] at h; cases h
  | some y => rw [hx] at h; exact ⟨y, (Option.some.inj h).symm⟩
/-- a block of bytes is no place of sectors, of writes, or of pairs -/
theorem PS.pastB {w w1 : World} {p r g t : Nat} {d : Dk} {m : Rm} {l : List UInt8} (h : PS w p r d m) (hb : Bk w g (l.map B).toArray t) (f : Fr (fun i => i = g) w w1) (hp : p ≠ g) (hr : r ≠ g) : PS w1 p r d m := by
  obtain ⟨⟨sa, sc, ca, cc, h1⟩, a, c, h2, h3⟩ := h
  have hS : RdS w1 sa d.S := RdG.later h1.v.rs f (fun x e hl => by
    subst e
    rintro rfl
    obtain ⟨b, o, e0, -, hat⟩ := RdG.form h1.v.rs (List.length_pos_iff.2 hl) Sec.pos
    cases e0
    have hc := hat 0 (List.length_pos_iff.2 hl) (d.S[0]'(List.length_pos_iff.2 hl)).data.length (.bool (d.S[0]'(List.length_pos_iff.2 hl)).nr) (by
      rw [Sec.cells, List.getElem?_append_right (by simp)]; simp)
    obtain ⟨y, hy⟩ := cell_byte hb hc
    rw [B_def] at hy
    cases hy)
  have hC : RdC w1 ca d.C := RdG.later h1.v.rc f (fun x e hl => by
    subst e
    rintro rfl
    obtain ⟨b, o, e0, -, hat⟩ := RdG.form h1.v.rc (List.length_pos_iff.2 hl) Wri.ps
    cases e0
    have hc := hat 0 (List.length_pos_iff.2 hl) 0 (.int .i64 (d.C[0]'(List.length_pos_iff.2 hl)).pos) rfl
    obtain ⟨y, hy⟩ := cell_byte hb hc
    rw [B_def] at hy
    cases hy)
  have hP : RdP w1 a m.ps := RdG.later h3.rd f (fun x e hl => by
    subst e
    rintro rfl
    obtain ⟨b, o, e0, -, hat⟩ := RdG.form h3.rd (List.length_pos_iff.2 hl) (fun _ => by simp [PR])
    cases e0
    have hc := hat 0 (List.length_pos_iff.2 hl) 0 (.int .i64 (m.ps[0]'(List.length_pos_iff.2 hl)).1) rfl
    obtain ⟨y, hy⟩ := cell_byte hb hc
    rw [B_def] at hy
    cases hy)
  exact ⟨⟨sa, sc, ca, cc, f.keep h1.blk hp, ⟨hS, hC, h1.v.sn, h1.v.sm, h1.v.cn, h1.v.cm⟩⟩, a, c, f.keep h2 hr, ⟨hP, h3.len, h3.max⟩⟩
theorem built_zb : Tryd.prog.built 22 [] = some ZB := by kernel_rfl
theorem Z128_cells : (Z128.map B).toArray = ZB := by kernel_rfl

set_option maxHeartbeats 8000000 in
set_option maxRecDepth 100000 in
theorem get_calls (p r : Nat) (d : Dk) (m : Rm) (a b : Int) (s : List UInt8) (w : World) (hok : d.ok) (hm : m.ok) (hps : PS w p r d m) (hrp : r ≠ p) (hsh : Sh w) (hs : s.length = 32) (ha : (Lit.int .i64 a).wf = true) (hb : (Lit.int .i64 b).wf = true) (hC : d.C.length ≤ 900) : Calls Tryd.prog 11 #[.pointer (some ⟨p, 0, none⟩), .pointer (some ⟨r, 0, none⟩), .agg (PC a b s).toArray] w fun e w' => e = .returned (.tuple #[.agg ((getX d m a b s).1.1.map B).toArray, .int .i64 (getX d m a b s).1.2.1, .int .i64 (getX d m a b s).1.2.2]) ∧ PS w' p r (getX d m a b s).2.1 (getX d m a b s).2.2 ∧ Fr (fun i => i = p ∨ i = r) w w' := by
  have HHO : Hid (∀ W, Fr0 w W → Calls Tryd.prog 17 #[.pointer (some ⟨p, 0, none⟩), .pointer (some ⟨r, 0, none⟩), .agg (PC a b s).toArray] W fun e w' => e = .returned (.bool (homeB d m a b s)) ∧ Fr0 W w') := Lib.hid (fun W f => home_calls p r d m a b s W hok hm (hps.keep0 f) hs ha hb)
  have HIH : Hid (∀ W, Calls Tryd.prog 28 #[.agg (PC a b s).toArray] W fun e w' => e = .returned (.bool (PtrAsk.isH a b s)) ∧ Fr0 W w') := Lib.hid (fun W => PtrAsk.ish_calls a b s W hs ha hb)
  have HC3 : Hid (∀ W, Fr0 w W → W.cell? ⟨p, 3, none⟩ = some (.bool d.down)) := Lib.hid (fun W f => by
    obtain ⟨⟨sa, sc, ca, cc, hv⟩, -⟩ := hps.keep0 f
    exact Bk.cell hv.blk 3)
  have HCO : Hid (∀ W, a ≠ -1 → Calls Tryd.prog 18 #[.agg (PC a b s).toArray] W fun e w' => ∃ zb k, e = .returned (.slice (some ⟨zb, 0, none⟩) (copL a b).length k) ∧ (copL a b).length ≤ k ∧ (∀ W', Fr0 w' W' → ∀ j (hj : j < (copL a b).length), W'.cell? ⟨zb, j, none⟩ = some (.int .i64 (copL a b)[j])) ∧ Fr0 W w') := Lib.hid (fun W h => (copies_calls a b s W h).mono (by
    rintro e w' ⟨v, rfl, hrow, hf⟩
    obtain ⟨zb, k, hv, hle, hc⟩ := row_at hrow (by unfold copL; split <;> simp)
    exact ⟨zb, k, by rw [hv], hle, hc, hf⟩))
  have HRD : Hid (∀ q W, (Lit.int .i64 q).wf = true → Fr0 w W → Calls Tryd.prog 29 #[.pointer (some ⟨p, 0, none⟩), .pointer (some ⟨r, 0, none⟩), .agg (PC a b s).toArray, .int .i64 q] W fun e w' => e = .returned (.tuple #[.agg ((rdG d m a b s q).1.map B).toArray, .bool (rdG d m a b s q).2]) ∧ Fr0 W w') := Lib.hid (fun q W hq f => DitRead.read_calls p r d m a b q s W hok hm (hps.keep0 f) (hsh.keep0 f) hs ha hb hq)
  have hlb := rdG_len hok m a b s b
  have hla := rdG_len hok m a b s a
  have HHE : Hid (∀ W, Fr0 w W → Calls Tryd.prog 30 #[.pointer (some ⟨p, 0, none⟩), .pointer (some ⟨r, 0, none⟩), .int .i64 a, .agg ((rdG d m a b s b).1.map B).toArray] W fun e w' => e = .returned (.tuple #[.int .i64 (healX d m a (rdG d m a b s b).1).1, .int .i64 (healX d m a (rdG d m a b s b).1).2.1]) ∧ PS w' p r (healX d m a (rdG d m a b s b).1).2.2.1 (healX d m a (rdG d m a b s b).1).2.2.2 ∧ Fr (fun i => i = p ∨ i = r) W w') := Lib.hid (fun W f => heal_calls p r d m a _ W hok hm (hps.keep0 f) hrp (hsh.keep0 f) ha hlb hC)
  have HWA := Lib.hid ha
  have HWB := Lib.hid hb
  have HPS := Lib.hid hps
  have HPW : Hid (p < w.heap.size ∧ r < w.heap.size) := Lib.hid (by
    obtain ⟨⟨sa, sc, ca, cc, hv⟩, ra, rc, hb1, -⟩ := hps
    exact ⟨Bk.lt hv.blk, Bk.lt hb1⟩)
  have HIP := Lib.hid (info_ptr a b hs)
  have HIA := Lib.hid (info_l hla)
  have HSA := Lib.hid (size_l hla)
  have HOA := Lib.hid (one_l (rdG d m a b s a).1)
  have HIB := Lib.hid (info_l hlb)
  have HSB := Lib.hid (size_l hlb)
  have HOB := Lib.hid (one_l (rdG d m a b s b).1)
  have P0 : Hid ((PC a b s).toArray[0]? = some (.int .i64 a)) := Lib.hid rfl
  have HZI : Hid ((Tryd.prog.info? 22).map (·.size) = some ZB.size) := Lib.hid (by have := info_l (show Z128.length = 128 by simp [Z128]); rwa [Z128_cells] at this)
  have HZO : Hid (ZB.all (·.oneCell') = true) := Lib.hid (by have := one_l Z128; rwa [Z128_cells] at this)
  have hcl : copL a b = if b = -1 then [a] else [a, b] := rfl
  have hhm : homeB d m a b s = true → PtrAsk.isH a b s = false → a ≠ -1 := fun h1 h2 => by
    unfold homeB at h1
    simp only [Bool.and_eq_true] at h1
    have h3 := h1.2.2.1
    unfold PtrAsk.rightB at h3
    rw [h2, Bool.false_or, Bool.and_eq_true] at h3
    have h4 := h3.1
    unfold PtrAsk.secB at h4
    have := of_decide_eq_true h4
    omega
  have hzb := zero_bl
  unfold getX
  clear hok hm hps hrp hsh hs ha hb hC hlb hla
  generalize (PC a b s).toArray = X at *
  have HRA := Lib.hid (fun W => HRD.out a W HWA.out)
  have HRB := Lib.hid (fun W => HRD.out b W HWB.out)
  obtain ⟨LA, hLA⟩ : ∃ z, ((rdG d m a b s a).1.map B).toArray = z := ⟨_, rfl⟩
  obtain ⟨LBB, hLB⟩ : ∃ z, ((rdG d m a b s b).1.map B).toArray = z := ⟨_, rfl⟩
  rw [hLA] at HRA HIA HSA HOA
  rw [hLB] at HRB HHE HIB HSB HOB
  have HLA := Lib.hid hLA
  have HLB := Lib.hid hLB
  clear hLA hLB HRD
  have HX1 : Hid (Bk ((w.alloc (.cells X 37)).alloc (.cells ZB 22)) w.heap.size X 37) := Lib.hid (Bk.alloc (Bk.new w _) _)
  have HZ1 : Hid (Bk ((w.alloc (.cells X 37)).alloc (.cells ZB 22)) (w.heap.size + 1) ZB 22) := Lib.hid (by have := Bk.new (w.alloc (.cells X 37)) (.cells ZB 22); rwa [show (w.alloc (.cells X 37)).heap.size = w.heap.size + 1 by simp] at this)
  have HF1 : Hid (Fr0 w ((w.alloc (.cells X 37)).alloc (.cells ZB 22))) := Lib.hid (Fr.alloc (Fr.alloc (Fr.refl _ _) _) _)
  cases hh : homeB d m a b s with
  | false =>
    rw [if_pos (show false = false from rfl)]
    rw [hh] at HHO
    clear hh hhm
    go_enter Tryd.func11, Tryd.ntmps11
    go_wp2_with (first | (go_at_call 17; (with_reducible refine (HHO.out _ HF1.out).mono ?_); rintro e w2 ⟨rfl, hf2⟩; have HX2 := Lib.hid (Fr.keep hf2 HX1.out (fun h => h)); have HZ2 := Lib.hid (Fr.keep hf2 HZ1.out (fun h => h)); have HF2 := Lib.hid (HF1.out.then0 hf2); clear hf2) | ((with_reducible show wpList _ _ _ ({ dst := _, op := Op.load 37 _, type := _, pos := _, after := _, guard := _ } :: _) _ _); refine wpList_load_row_g (by rfl) 37 _ rfl w.heap.size rfl 37 X (0, 0) _ HX1.out Tryd.underlying37 rfl HIP.out ?_) | ((with_reducible show wpList _ _ _ ({ dst := _, op := Op.load 22 _, type := _, pos := _, after := _, guard := _ } :: _) _ _); refine wpList_load_row_g (by rfl) 22 _ rfl (w.heap.size + 1) rfl 22 ZB (0, 0) _ HZ2.out Tryd.underlying22 rfl HZI.out ?_) | ((with_reducible show wpList _ _ _ ({ dst := _, op := Op.store 22 _ _, type := _, pos := _, after := _, guard := _ } :: _) _ _); refine wpList_store_row rfl 22 _ _ rfl (w.heap.size + 1) ZB rfl rfl 22 ZB HZ2.out HZI.out rfl HZO.out ?_))
    refine fin_ctt (w.heap.size + 1) 22 ZB (.int .i64 0) (.int .i64 1) (by rfl) (by rfl) (by rfl) (by rfl) (by rfl) Tryd.underlying22 (by rfl) HZI.out (ArrKit.Bk.row HZ2.out _) ?_
    exact ⟨(congrArg (fun z => Ending.returned (.tuple #[.agg z, .int .i64 0, .int .i64 1])) Z128_cells.symm), HPS.out.keep0 (ArrKit.Fr.row HF2.out _ _ (.inl (by omega))), Fr.weaken (ArrKit.Fr.row HF2.out _ _ (.inl (by omega))) (fun _ _ h => h.elim)⟩
  | true =>
    cases hi : PtrAsk.isH a b s with
    | true =>
      rw [if_neg (show ¬ true = false by decide), if_pos (show true = true from rfl)]
      rw [hh] at HHO
      rw [hi] at HIH
      clear hh hi hhm
      go_enter Tryd.func11, Tryd.ntmps11
      go_wp2_with (first | (go_at_call 17; (with_reducible refine (HHO.out _ HF1.out).mono ?_); rintro e w2 ⟨rfl, hf2⟩; have HX2 := Lib.hid (Fr.keep hf2 HX1.out (fun h => h)); have HZ2 := Lib.hid (Fr.keep hf2 HZ1.out (fun h => h)); have HF2 := Lib.hid (HF1.out.then0 hf2); clear hf2) | ((with_reducible show wpList _ _ _ ({ dst := _, op := Op.load 37 _, type := _, pos := _, after := _, guard := _ } :: _) _ _); refine wpList_load_row_g (by rfl) 37 _ rfl w.heap.size rfl 37 X (0, 0) _ HX1.out Tryd.underlying37 rfl HIP.out ?_) | ((with_reducible show wpList _ _ _ ({ dst := _, op := Op.load 37 _, type := _, pos := _, after := _, guard := _ } :: _) _ _); refine wpList_load_row_g (by rfl) 37 _ rfl w.heap.size rfl 37 X (0, 0) _ HX2.out Tryd.underlying37 rfl HIP.out ?_) | (go_at_call 28; (with_reducible refine (HIH.out _).mono ?_); rintro e w3 ⟨rfl, hf3⟩; have HX3 := Lib.hid (Fr.keep hf3 HX2.out (fun h => h)); have HZ3 := Lib.hid (Fr.keep hf3 HZ2.out (fun h => h)); have HF3 := Lib.hid (HF2.out.then0 hf3); have c33 := HC3.out _ HF3.out; clear hf3) | ((with_reducible show wpList _ _ _ ({ dst := _, op := Op.load 22 _, type := _, pos := _, after := _, guard := _ } :: _) _ _); refine wpList_load_row_g (by rfl) 22 _ rfl (w.heap.size + 1) rfl 22 ZB (0, 0) _ HZ3.out Tryd.underlying22 rfl HZI.out ?_) | ((with_reducible show wpList _ _ _ ({ dst := _, op := Op.store 22 _ _, type := _, pos := _, after := _, guard := _ } :: _) _ _); refine wpList_store_row rfl 22 _ _ rfl (w.heap.size + 1) ZB rfl rfl 22 ZB HZ3.out HZI.out rfl HZO.out ?_))
      refine fin_ctt (w.heap.size + 1) 22 ZB (.int .i64 0) (.int .i64 0) (by rfl) (by rfl) (by rfl) (by rfl) (by rfl) Tryd.underlying22 (by rfl) HZI.out (ArrKit.Bk.row HZ3.out _) ?_
      exact ⟨(congrArg (fun z => Ending.returned (.tuple #[.agg z, .int .i64 0, .int .i64 0])) Z128_cells.symm), HPS.out.keep0 (ArrKit.Fr.row HF3.out _ _ (.inl (by omega))), Fr.weaken (ArrKit.Fr.row HF3.out _ _ (.inl (by omega))) (fun _ _ h => h.elim)⟩
    | false =>
      cases hd : d.down with
      | true =>
        rw [if_neg (show ¬ true = false by decide), if_neg (show ¬ false = true by decide), if_pos (show true = true from rfl)]
        rw [hh] at HHO
        rw [hi] at HIH
        rw [hd] at HC3
        clear hh hi hd hhm
        go_enter Tryd.func11, Tryd.ntmps11
        go_wp2_with (first | (go_at_call 17; (with_reducible refine (HHO.out _ HF1.out).mono ?_); rintro e w2 ⟨rfl, hf2⟩; have HX2 := Lib.hid (Fr.keep hf2 HX1.out (fun h => h)); have HZ2 := Lib.hid (Fr.keep hf2 HZ1.out (fun h => h)); have HF2 := Lib.hid (HF1.out.then0 hf2); clear hf2) | ((with_reducible show wpList _ _ _ ({ dst := _, op := Op.load 37 _, type := _, pos := _, after := _, guard := _ } :: _) _ _); refine wpList_load_row_g (by rfl) 37 _ rfl w.heap.size rfl 37 X (0, 0) _ HX1.out Tryd.underlying37 rfl HIP.out ?_) | ((with_reducible show wpList _ _ _ ({ dst := _, op := Op.load 37 _, type := _, pos := _, after := _, guard := _ } :: _) _ _); refine wpList_load_row_g (by rfl) 37 _ rfl w.heap.size rfl 37 X (0, 0) _ HX2.out Tryd.underlying37 rfl HIP.out ?_) | (go_at_call 28; (with_reducible refine (HIH.out _).mono ?_); rintro e w3 ⟨rfl, hf3⟩; have HX3 := Lib.hid (Fr.keep hf3 HX2.out (fun h => h)); have HZ3 := Lib.hid (Fr.keep hf3 HZ2.out (fun h => h)); have HF3 := Lib.hid (HF2.out.then0 hf3); have c33 := HC3.out _ HF3.out; clear hf3) | ((with_reducible show wpList _ _ _ ({ dst := _, op := Op.load 22 _, type := _, pos := _, after := _, guard := _ } :: _) _ _); refine wpList_load_row_g (by rfl) 22 _ rfl (w.heap.size + 1) rfl 22 ZB (0, 0) _ HZ3.out Tryd.underlying22 rfl HZI.out ?_) | ((with_reducible show wpList _ _ _ ({ dst := _, op := Op.store 22 _ _, type := _, pos := _, after := _, guard := _ } :: _) _ _); refine wpList_store_row rfl 22 _ _ rfl (w.heap.size + 1) ZB rfl rfl 22 ZB HZ3.out HZI.out rfl HZO.out ?_))
        refine fin_ctt (w.heap.size + 1) 22 ZB (.int .i64 0) (.int .i64 3) (by rfl) (by rfl) (by rfl) (by rfl) (by rfl) Tryd.underlying22 (by rfl) HZI.out (ArrKit.Bk.row HZ3.out _) ?_
        exact ⟨(congrArg (fun z => Ending.returned (.tuple #[.agg z, .int .i64 0, .int .i64 3])) Z128_cells.symm), HPS.out.keep0 (ArrKit.Fr.row HF3.out _ _ (.inl (by omega))), Fr.weaken (ArrKit.Fr.row HF3.out _ _ (.inl (by omega))) (fun _ _ h => h.elim)⟩
      | false =>
        have hane := hhm hh hi
        rw [if_neg (show ¬ true = false by decide), if_neg (show ¬ false = true by decide), if_neg (show ¬ false = true by decide)]
        rw [hh] at HHO
        rw [hi] at HIH
        rw [hd] at HC3
        clear hh hi hd hhm
        have HL0 : Hid (0 < (copL a b).length) := Lib.hid (by rw [hcl]; split <;> simp)
        cases hga : (rdG d m a b s a).2 with
        | true =>
          rw [if_pos (show true = true from rfl)]
          rw [hga] at HRA
          clear hga
          have hz0 : (copL a b)[0]? = some a := by rw [hcl]; split <;> rfl
          by_cases hb1 : b = -1
          · have hl : copL a b = [a] := by rw [hcl]; rw [if_pos hb1]
            rw [hl] at HCO HL0
            clear hcl hl
            clear hz0
            go_enter Tryd.func11, Tryd.ntmps11
            go_wp2_with (first | (go_at_call 17; (with_reducible refine (HHO.out _ HF1.out).mono ?_); rintro e w2 ⟨rfl, hf2⟩; have HX2 := Lib.hid (Fr.keep hf2 HX1.out (fun h => h)); have HZ2 := Lib.hid (Fr.keep hf2 HZ1.out (fun h => h)); have HF2 := Lib.hid (HF1.out.then0 hf2); clear hf2) | ((with_reducible show wpList _ _ _ ({ dst := _, op := Op.load 37 _, type := _, pos := _, after := _, guard := _ } :: _) _ _); refine wpList_load_row_g (by rfl) 37 _ rfl w.heap.size rfl 37 X (0, 0) _ HX1.out Tryd.underlying37 rfl HIP.out ?_) | ((with_reducible show wpList _ _ _ ({ dst := _, op := Op.load 37 _, type := _, pos := _, after := _, guard := _ } :: _) _ _); refine wpList_load_row_g (by rfl) 37 _ rfl w.heap.size rfl 37 X (0, 0) _ HX2.out Tryd.underlying37 rfl HIP.out ?_) | ((with_reducible show wpList _ _ _ ({ dst := _, op := Op.load 37 _, type := _, pos := _, after := _, guard := _ } :: _) _ _); refine wpList_load_row_g (by rfl) 37 _ rfl w.heap.size rfl 37 X (0, 0) _ HX3.out Tryd.underlying37 rfl HIP.out ?_) | (go_at_call 28; (with_reducible refine (HIH.out _).mono ?_); rintro e w3 ⟨rfl, hf3⟩; have HX3 := Lib.hid (Fr.keep hf3 HX2.out (fun h => h)); have HZ3 := Lib.hid (Fr.keep hf3 HZ2.out (fun h => h)); have HF3 := Lib.hid (HF2.out.then0 hf3); have c33 := HC3.out _ HF3.out; clear hf3) | (go_at_call 18; (with_reducible refine (HCO.out _ hane).mono ?_); rintro e w4 ⟨zb, zk, rfl, hzk, hzc, hf4⟩; have HX4 := Lib.hid (Fr.keep hf4 HX3.out (fun h => h)); have HZ4 := Lib.hid (Fr.keep hf4 HZ3.out (fun h => h)); have HF4 := Lib.hid (HF3.out.then0 hf4); have HZC := Lib.hid hzc; have z40 := HZC.out w4 (Fr.refl _ _) 0 HL0.out; clear hf4 hzc))
            refine wp_loop_rounds 3 ?_
            rw [rounds_succ]
            go_wp2_with (first | ((with_reducible show wpList _ _ _ ({ dst := _, op := Op.load 37 _, type := _, pos := _, after := _, guard := _ } :: _) _ _); refine wpList_load_row_g (by rfl) 37 _ rfl w.heap.size rfl 37 X (0, 0) _ HX4.out Tryd.underlying37 rfl HIP.out ?_) | (go_at_call 29; (with_reducible refine (HRA.out _ HF4.out).mono ?_); rintro e w5 ⟨rfl, hf5⟩; have HZB5 := Lib.hid (Bk.new w5 (.cells ZB 22)); have hfx := Fr.then0 hf5 (show Fr0 w5 ((w5.alloc (.cells ZB 22)).setRow w5.heap.size LA) from ArrKit.Fr.row (Fr.alloc (Fr.refl _ _) _) _ _ (.inl (Nat.le_refl _))); have HX6 := Lib.hid (Fr.keep hfx HX4.out (fun h => h)); have HZ6 := Lib.hid (Fr.keep hfx HZ4.out (fun h => h)); have HF6 := Lib.hid (HF4.out.then0 hfx); have HY6 : Hid (Bk ((w5.alloc (.cells ZB 22)).setRow w5.heap.size LA) w5.heap.size LA 22) := Lib.hid (ArrKit.Bk.row HZB5.out _); have z61 := fun h => HZC.out ((w5.alloc (.cells ZB 22)).setRow w5.heap.size LA) hfx 1 h; clear hf5 hfx) | ((with_reducible show wpList _ _ _ ({ dst := _, op := Op.store 22 _ _, type := _, pos := _, after := _, guard := _ } :: _) _ _); refine wpList_store_row rfl 22 _ _ rfl w5.heap.size LA rfl rfl 22 ZB HZB5.out HIA.out HSA.out HOA.out ?_) | ((with_reducible show wpList _ _ _ ({ dst := _, op := Op.load 22 _, type := _, pos := _, after := _, guard := _ } :: _) _ _); refine wpList_load_row_g (by rfl) 22 _ rfl w5.heap.size rfl 22 LA (0, 0) _ HY6.out Tryd.underlying22 rfl HIA.out ?_) | ((with_reducible show wpList _ _ _ ({ dst := _, op := Op.store 22 _ _, type := _, pos := _, after := _, guard := _ } :: _) _ _); refine wpList_store_row rfl 22 _ _ rfl (w.heap.size + 1) LA rfl rfl 22 ZB HZ6.out HIA.out HSA.out HOA.out ?_))
            refine fin_ctt (w.heap.size + 1) 22 LA (.int .i64 0) (.int .i64 0) (by rfl) (by rfl) (by rfl) (by rfl) (by rfl) Tryd.underlying22 (by rfl) HIA.out (ArrKit.Bk.row HZ6.out _) ?_
            exact ⟨(by rw [← HLA.out]), HPS.out.keep0 (ArrKit.Fr.row HF6.out _ _ (.inl (by omega))), Fr.weaken (ArrKit.Fr.row HF6.out _ _ (.inl (by omega))) (fun _ _ h => h.elim)⟩
          · have hl : copL a b = [a, b] := by rw [hcl]; rw [if_neg hb1]
            rw [hl] at HCO HL0
            clear hcl hl
            clear hz0
            go_enter Tryd.func11, Tryd.ntmps11
            go_wp2_with (first | (go_at_call 17; (with_reducible refine (HHO.out _ HF1.out).mono ?_); rintro e w2 ⟨rfl, hf2⟩; have HX2 := Lib.hid (Fr.keep hf2 HX1.out (fun h => h)); have HZ2 := Lib.hid (Fr.keep hf2 HZ1.out (fun h => h)); have HF2 := Lib.hid (HF1.out.then0 hf2); clear hf2) | ((with_reducible show wpList _ _ _ ({ dst := _, op := Op.load 37 _, type := _, pos := _, after := _, guard := _ } :: _) _ _); refine wpList_load_row_g (by rfl) 37 _ rfl w.heap.size rfl 37 X (0, 0) _ HX1.out Tryd.underlying37 rfl HIP.out ?_) | ((with_reducible show wpList _ _ _ ({ dst := _, op := Op.load 37 _, type := _, pos := _, after := _, guard := _ } :: _) _ _); refine wpList_load_row_g (by rfl) 37 _ rfl w.heap.size rfl 37 X (0, 0) _ HX2.out Tryd.underlying37 rfl HIP.out ?_) | ((with_reducible show wpList _ _ _ ({ dst := _, op := Op.load 37 _, type := _, pos := _, after := _, guard := _ } :: _) _ _); refine wpList_load_row_g (by rfl) 37 _ rfl w.heap.size rfl 37 X (0, 0) _ HX3.out Tryd.underlying37 rfl HIP.out ?_) | (go_at_call 28; (with_reducible refine (HIH.out _).mono ?_); rintro e w3 ⟨rfl, hf3⟩; have HX3 := Lib.hid (Fr.keep hf3 HX2.out (fun h => h)); have HZ3 := Lib.hid (Fr.keep hf3 HZ2.out (fun h => h)); have HF3 := Lib.hid (HF2.out.then0 hf3); have c33 := HC3.out _ HF3.out; clear hf3) | (go_at_call 18; (with_reducible refine (HCO.out _ hane).mono ?_); rintro e w4 ⟨zb, zk, rfl, hzk, hzc, hf4⟩; have HX4 := Lib.hid (Fr.keep hf4 HX3.out (fun h => h)); have HZ4 := Lib.hid (Fr.keep hf4 HZ3.out (fun h => h)); have HF4 := Lib.hid (HF3.out.then0 hf4); have HZC := Lib.hid hzc; have z40 := HZC.out w4 (Fr.refl _ _) 0 HL0.out; clear hf4 hzc))
            refine wp_loop_rounds 3 ?_
            rw [rounds_succ]
            go_wp2_with (first | ((with_reducible show wpList _ _ _ ({ dst := _, op := Op.load 37 _, type := _, pos := _, after := _, guard := _ } :: _) _ _); refine wpList_load_row_g (by rfl) 37 _ rfl w.heap.size rfl 37 X (0, 0) _ HX4.out Tryd.underlying37 rfl HIP.out ?_) | (go_at_call 29; (with_reducible refine (HRA.out _ HF4.out).mono ?_); rintro e w5 ⟨rfl, hf5⟩; have HZB5 := Lib.hid (Bk.new w5 (.cells ZB 22)); have hfx := Fr.then0 hf5 (show Fr0 w5 ((w5.alloc (.cells ZB 22)).setRow w5.heap.size LA) from ArrKit.Fr.row (Fr.alloc (Fr.refl _ _) _) _ _ (.inl (Nat.le_refl _))); have HX6 := Lib.hid (Fr.keep hfx HX4.out (fun h => h)); have HZ6 := Lib.hid (Fr.keep hfx HZ4.out (fun h => h)); have HF6 := Lib.hid (HF4.out.then0 hfx); have HY6 : Hid (Bk ((w5.alloc (.cells ZB 22)).setRow w5.heap.size LA) w5.heap.size LA 22) := Lib.hid (ArrKit.Bk.row HZB5.out _); have z61 := fun h => HZC.out ((w5.alloc (.cells ZB 22)).setRow w5.heap.size LA) hfx 1 h; clear hf5 hfx) | ((with_reducible show wpList _ _ _ ({ dst := _, op := Op.store 22 _ _, type := _, pos := _, after := _, guard := _ } :: _) _ _); refine wpList_store_row rfl 22 _ _ rfl w5.heap.size LA rfl rfl 22 ZB HZB5.out HIA.out HSA.out HOA.out ?_) | ((with_reducible show wpList _ _ _ ({ dst := _, op := Op.load 22 _, type := _, pos := _, after := _, guard := _ } :: _) _ _); refine wpList_load_row_g (by rfl) 22 _ rfl w5.heap.size rfl 22 LA (0, 0) _ HY6.out Tryd.underlying22 rfl HIA.out ?_) | ((with_reducible show wpList _ _ _ ({ dst := _, op := Op.store 22 _ _, type := _, pos := _, after := _, guard := _ } :: _) _ _); refine wpList_store_row rfl 22 _ _ rfl (w.heap.size + 1) LA rfl rfl 22 ZB HZ6.out HIA.out HSA.out HOA.out ?_))
            refine fin_ctt (w.heap.size + 1) 22 LA (.int .i64 0) (.int .i64 0) (by rfl) (by rfl) (by rfl) (by rfl) (by rfl) Tryd.underlying22 (by rfl) HIA.out (ArrKit.Bk.row HZ6.out _) ?_
            exact ⟨(by rw [← HLA.out]), HPS.out.keep0 (ArrKit.Fr.row HF6.out _ _ (.inl (by omega))), Fr.weaken (ArrKit.Fr.row HF6.out _ _ (.inl (by omega))) (fun _ _ h => h.elim)⟩
        | false =>
          rw [if_neg (show ¬ false = true by decide)]
          rw [hga] at HRA
          clear hga
          by_cases hb1 : b = -1
          · rw [if_pos hb1]
            have hl : copL a b = [a] := by rw [hcl]; rw [if_pos hb1]
            rw [hl] at HCO HL0
            clear hcl hl
            go_enter Tryd.func11, Tryd.ntmps11
            go_wp2_with (first | (go_at_call 17; (with_reducible refine (HHO.out _ HF1.out).mono ?_); rintro e w2 ⟨rfl, hf2⟩; have HX2 := Lib.hid (Fr.keep hf2 HX1.out (fun h => h)); have HZ2 := Lib.hid (Fr.keep hf2 HZ1.out (fun h => h)); have HF2 := Lib.hid (HF1.out.then0 hf2); clear hf2) | ((with_reducible show wpList _ _ _ ({ dst := _, op := Op.load 37 _, type := _, pos := _, after := _, guard := _ } :: _) _ _); refine wpList_load_row_g (by rfl) 37 _ rfl w.heap.size rfl 37 X (0, 0) _ HX1.out Tryd.underlying37 rfl HIP.out ?_) | ((with_reducible show wpList _ _ _ ({ dst := _, op := Op.load 37 _, type := _, pos := _, after := _, guard := _ } :: _) _ _); refine wpList_load_row_g (by rfl) 37 _ rfl w.heap.size rfl 37 X (0, 0) _ HX2.out Tryd.underlying37 rfl HIP.out ?_) | ((with_reducible show wpList _ _ _ ({ dst := _, op := Op.load 37 _, type := _, pos := _, after := _, guard := _ } :: _) _ _); refine wpList_load_row_g (by rfl) 37 _ rfl w.heap.size rfl 37 X (0, 0) _ HX3.out Tryd.underlying37 rfl HIP.out ?_) | (go_at_call 28; (with_reducible refine (HIH.out _).mono ?_); rintro e w3 ⟨rfl, hf3⟩; have HX3 := Lib.hid (Fr.keep hf3 HX2.out (fun h => h)); have HZ3 := Lib.hid (Fr.keep hf3 HZ2.out (fun h => h)); have HF3 := Lib.hid (HF2.out.then0 hf3); have c33 := HC3.out _ HF3.out; clear hf3) | (go_at_call 18; (with_reducible refine (HCO.out _ hane).mono ?_); rintro e w4 ⟨zb, zk, rfl, hzk, hzc, hf4⟩; have HX4 := Lib.hid (Fr.keep hf4 HX3.out (fun h => h)); have HZ4 := Lib.hid (Fr.keep hf4 HZ3.out (fun h => h)); have HF4 := Lib.hid (HF3.out.then0 hf4); have HZC := Lib.hid hzc; have z40 := HZC.out w4 (Fr.refl _ _) 0 HL0.out; clear hf4 hzc))
            refine wp_loop_rounds 3 ?_
            rw [rounds_succ]
            go_wp2_with (first | ((with_reducible show wpList _ _ _ ({ dst := _, op := Op.load 37 _, type := _, pos := _, after := _, guard := _ } :: _) _ _); refine wpList_load_row_g (by rfl) 37 _ rfl w.heap.size rfl 37 X (0, 0) _ HX4.out Tryd.underlying37 rfl HIP.out ?_) | (go_at_call 29; (with_reducible refine (HRA.out _ HF4.out).mono ?_); rintro e w5 ⟨rfl, hf5⟩; have HZB5 := Lib.hid (Bk.new w5 (.cells ZB 22)); have hfx := Fr.then0 hf5 (show Fr0 w5 ((w5.alloc (.cells ZB 22)).setRow w5.heap.size LA) from ArrKit.Fr.row (Fr.alloc (Fr.refl _ _) _) _ _ (.inl (Nat.le_refl _))); have HX6 := Lib.hid (Fr.keep hfx HX4.out (fun h => h)); have HZ6 := Lib.hid (Fr.keep hfx HZ4.out (fun h => h)); have HF6 := Lib.hid (HF4.out.then0 hfx); have HY6 : Hid (Bk ((w5.alloc (.cells ZB 22)).setRow w5.heap.size LA) w5.heap.size LA 22) := Lib.hid (ArrKit.Bk.row HZB5.out _); have z61 := fun h => HZC.out ((w5.alloc (.cells ZB 22)).setRow w5.heap.size LA) hfx 1 h; clear hf5 hfx) | ((with_reducible show wpList _ _ _ ({ dst := _, op := Op.store 22 _ _, type := _, pos := _, after := _, guard := _ } :: _) _ _); refine wpList_store_row rfl 22 _ _ rfl w5.heap.size LA rfl rfl 22 ZB HZB5.out HIA.out HSA.out HOA.out ?_))
            rw [rounds_succ]
            go_wp2_with (first | ((with_reducible show wpList _ _ _ ({ dst := _, op := Op.load 22 _, type := _, pos := _, after := _, guard := _ } :: _) _ _); refine wpList_load_row_g (by rfl) 22 _ rfl (w.heap.size + 1) rfl 22 ZB (0, 0) _ HZ6.out Tryd.underlying22 rfl HZI.out ?_) | ((with_reducible show wpList _ _ _ ({ dst := _, op := Op.store 22 _ _, type := _, pos := _, after := _, guard := _ } :: _) _ _); refine wpList_store_row rfl 22 _ _ rfl (w.heap.size + 1) ZB rfl rfl 22 ZB HZ6.out HZI.out rfl HZO.out ?_))
            refine fin_ctt (w.heap.size + 1) 22 ZB (.int .i64 0) (.int .i64 2) (by rfl) (by rfl) (by rfl) (by rfl) (by rfl) Tryd.underlying22 (by rfl) HZI.out (ArrKit.Bk.row HZ6.out _) ?_
            exact ⟨(congrArg (fun z => Ending.returned (.tuple #[.agg z, .int .i64 0, .int .i64 2])) Z128_cells.symm), HPS.out.keep0 (ArrKit.Fr.row HF6.out _ _ (.inl (by omega))), Fr.weaken (ArrKit.Fr.row HF6.out _ _ (.inl (by omega))) (fun _ _ h => h.elim)⟩
          · rw [if_neg hb1]
            cases hgb : (rdG d m a b s b).2 with
            | false =>
              rw [if_pos (show false = false from rfl)]
              rw [hgb] at HRB
              clear hgb
              have hl : copL a b = [a, b] := by rw [hcl]; rw [if_neg hb1]
              rw [hl] at HCO HL0
              clear hcl hl
              go_enter Tryd.func11, Tryd.ntmps11
              go_wp2_with (first | (go_at_call 17; (with_reducible refine (HHO.out _ HF1.out).mono ?_); rintro e w2 ⟨rfl, hf2⟩; have HX2 := Lib.hid (Fr.keep hf2 HX1.out (fun h => h)); have HZ2 := Lib.hid (Fr.keep hf2 HZ1.out (fun h => h)); have HF2 := Lib.hid (HF1.out.then0 hf2); clear hf2) | ((with_reducible show wpList _ _ _ ({ dst := _, op := Op.load 37 _, type := _, pos := _, after := _, guard := _ } :: _) _ _); refine wpList_load_row_g (by rfl) 37 _ rfl w.heap.size rfl 37 X (0, 0) _ HX1.out Tryd.underlying37 rfl HIP.out ?_) | ((with_reducible show wpList _ _ _ ({ dst := _, op := Op.load 37 _, type := _, pos := _, after := _, guard := _ } :: _) _ _); refine wpList_load_row_g (by rfl) 37 _ rfl w.heap.size rfl 37 X (0, 0) _ HX2.out Tryd.underlying37 rfl HIP.out ?_) | ((with_reducible show wpList _ _ _ ({ dst := _, op := Op.load 37 _, type := _, pos := _, after := _, guard := _ } :: _) _ _); refine wpList_load_row_g (by rfl) 37 _ rfl w.heap.size rfl 37 X (0, 0) _ HX3.out Tryd.underlying37 rfl HIP.out ?_) | (go_at_call 28; (with_reducible refine (HIH.out _).mono ?_); rintro e w3 ⟨rfl, hf3⟩; have HX3 := Lib.hid (Fr.keep hf3 HX2.out (fun h => h)); have HZ3 := Lib.hid (Fr.keep hf3 HZ2.out (fun h => h)); have HF3 := Lib.hid (HF2.out.then0 hf3); have c33 := HC3.out _ HF3.out; clear hf3) | (go_at_call 18; (with_reducible refine (HCO.out _ hane).mono ?_); rintro e w4 ⟨zb, zk, rfl, hzk, hzc, hf4⟩; have HX4 := Lib.hid (Fr.keep hf4 HX3.out (fun h => h)); have HZ4 := Lib.hid (Fr.keep hf4 HZ3.out (fun h => h)); have HF4 := Lib.hid (HF3.out.then0 hf4); have HZC := Lib.hid hzc; have z40 := HZC.out w4 (Fr.refl _ _) 0 HL0.out; clear hf4 hzc))
              refine wp_loop_rounds 3 ?_
              rw [rounds_succ]
              go_wp2_with (first | ((with_reducible show wpList _ _ _ ({ dst := _, op := Op.load 37 _, type := _, pos := _, after := _, guard := _ } :: _) _ _); refine wpList_load_row_g (by rfl) 37 _ rfl w.heap.size rfl 37 X (0, 0) _ HX4.out Tryd.underlying37 rfl HIP.out ?_) | (go_at_call 29; (with_reducible refine (HRA.out _ HF4.out).mono ?_); rintro e w5 ⟨rfl, hf5⟩; have HZB5 := Lib.hid (Bk.new w5 (.cells ZB 22)); have hfx := Fr.then0 hf5 (show Fr0 w5 ((w5.alloc (.cells ZB 22)).setRow w5.heap.size LA) from ArrKit.Fr.row (Fr.alloc (Fr.refl _ _) _) _ _ (.inl (Nat.le_refl _))); have HX6 := Lib.hid (Fr.keep hfx HX4.out (fun h => h)); have HZ6 := Lib.hid (Fr.keep hfx HZ4.out (fun h => h)); have HF6 := Lib.hid (HF4.out.then0 hfx); have HY6 : Hid (Bk ((w5.alloc (.cells ZB 22)).setRow w5.heap.size LA) w5.heap.size LA 22) := Lib.hid (ArrKit.Bk.row HZB5.out _); have z61 := fun h => HZC.out ((w5.alloc (.cells ZB 22)).setRow w5.heap.size LA) hfx 1 h; clear hf5 hfx) | ((with_reducible show wpList _ _ _ ({ dst := _, op := Op.store 22 _ _, type := _, pos := _, after := _, guard := _ } :: _) _ _); refine wpList_store_row rfl 22 _ _ rfl w5.heap.size LA rfl rfl 22 ZB HZB5.out HIA.out HSA.out HOA.out ?_))
              have c61 := z61 (by simp)
              rw [rounds_succ]
              go_wp2_with (first | ((with_reducible show wpList _ _ _ ({ dst := _, op := Op.load 37 _, type := _, pos := _, after := _, guard := _ } :: _) _ _); refine wpList_load_row_g (by rfl) 37 _ rfl w.heap.size rfl 37 X (0, 0) _ HX6.out Tryd.underlying37 rfl HIP.out ?_) | (go_at_call 29; (with_reducible refine (HRB.out _ HF6.out).mono ?_); rintro e w7 ⟨rfl, hf7⟩; have HZB7 := Lib.hid (Bk.new w7 (.cells ZB 22)); have hfx := Fr.then0 hf7 (show Fr0 w7 ((w7.alloc (.cells ZB 22)).setRow w7.heap.size LBB) from ArrKit.Fr.row (Fr.alloc (Fr.refl _ _) _) _ _ (.inl (Nat.le_refl _))); have HX8 := Lib.hid (Fr.keep hfx HX6.out (fun h => h)); have HZ8 := Lib.hid (Fr.keep hfx HZ6.out (fun h => h)); have HF8 := Lib.hid (HF6.out.then0 hfx); have HY8 : Hid (Bk ((w7.alloc (.cells ZB 22)).setRow w7.heap.size LBB) w7.heap.size LBB 22) := Lib.hid (ArrKit.Bk.row HZB7.out _); have q80 : ((w7.alloc (.cells ZB 22)).setRow w7.heap.size LBB).cell? ⟨w.heap.size, 0, none⟩ = some (.int .i64 a) := (Bk.cell HX8.out 0).trans P0.out; clear hf7 hfx) | ((with_reducible show wpList _ _ _ ({ dst := _, op := Op.store 22 _ _, type := _, pos := _, after := _, guard := _ } :: _) _ _); refine wpList_store_row rfl 22 _ _ rfl w7.heap.size LBB rfl rfl 22 ZB HZB7.out HIB.out HSB.out HOB.out ?_))
              rw [rounds_succ]
              go_wp2_with (first | ((with_reducible show wpList _ _ _ ({ dst := _, op := Op.load 22 _, type := _, pos := _, after := _, guard := _ } :: _) _ _); refine wpList_load_row_g (by rfl) 22 _ rfl (w.heap.size + 1) rfl 22 ZB (0, 0) _ HZ8.out Tryd.underlying22 rfl HZI.out ?_) | ((with_reducible show wpList _ _ _ ({ dst := _, op := Op.store 22 _ _, type := _, pos := _, after := _, guard := _ } :: _) _ _); refine wpList_store_row rfl 22 _ _ rfl (w.heap.size + 1) ZB rfl rfl 22 ZB HZ8.out HZI.out rfl HZO.out ?_))
              refine fin_ctt (w.heap.size + 1) 22 ZB (.int .i64 0) (.int .i64 2) (by rfl) (by rfl) (by rfl) (by rfl) (by rfl) Tryd.underlying22 (by rfl) HZI.out (ArrKit.Bk.row HZ8.out _) ?_
              exact ⟨(congrArg (fun z => Ending.returned (.tuple #[.agg z, .int .i64 0, .int .i64 2])) Z128_cells.symm), HPS.out.keep0 (ArrKit.Fr.row HF8.out _ _ (.inl (by omega))), Fr.weaken (ArrKit.Fr.row HF8.out _ _ (.inl (by omega))) (fun _ _ h => h.elim)⟩
            | true =>
              rw [if_neg (show ¬ true = false by decide)]
              rw [hgb] at HRB
              clear hgb
              obtain ⟨⟨hn, he, D1, M1⟩, hH⟩ : ∃ z, healX d m a (rdG d m a b s b).1 = z := ⟨_, rfl⟩
              rw [hH] at HHE
              rw [hH]
              clear hH
              by_cases he0 : he = 0
              · rw [if_neg (by show ¬ he ≠ 0; omega)]
                subst he0
                have hl : copL a b = [a, b] := by rw [hcl]; rw [if_neg hb1]
                rw [hl] at HCO HL0
                clear hcl hl
                go_enter Tryd.func11, Tryd.ntmps11
                go_wp2_with (first | (go_at_call 17; (with_reducible refine (HHO.out _ HF1.out).mono ?_); rintro e w2 ⟨rfl, hf2⟩; have HX2 := Lib.hid (Fr.keep hf2 HX1.out (fun h => h)); have HZ2 := Lib.hid (Fr.keep hf2 HZ1.out (fun h => h)); have HF2 := Lib.hid (HF1.out.then0 hf2); clear hf2) | ((with_reducible show wpList _ _ _ ({ dst := _, op := Op.load 37 _, type := _, pos := _, after := _, guard := _ } :: _) _ _); refine wpList_load_row_g (by rfl) 37 _ rfl w.heap.size rfl 37 X (0, 0) _ HX1.out Tryd.underlying37 rfl HIP.out ?_) | ((with_reducible show wpList _ _ _ ({ dst := _, op := Op.load 37 _, type := _, pos := _, after := _, guard := _ } :: _) _ _); refine wpList_load_row_g (by rfl) 37 _ rfl w.heap.size rfl 37 X (0, 0) _ HX2.out Tryd.underlying37 rfl HIP.out ?_) | ((with_reducible show wpList _ _ _ ({ dst := _, op := Op.load 37 _, type := _, pos := _, after := _, guard := _ } :: _) _ _); refine wpList_load_row_g (by rfl) 37 _ rfl w.heap.size rfl 37 X (0, 0) _ HX3.out Tryd.underlying37 rfl HIP.out ?_) | (go_at_call 28; (with_reducible refine (HIH.out _).mono ?_); rintro e w3 ⟨rfl, hf3⟩; have HX3 := Lib.hid (Fr.keep hf3 HX2.out (fun h => h)); have HZ3 := Lib.hid (Fr.keep hf3 HZ2.out (fun h => h)); have HF3 := Lib.hid (HF2.out.then0 hf3); have c33 := HC3.out _ HF3.out; clear hf3) | (go_at_call 18; (with_reducible refine (HCO.out _ hane).mono ?_); rintro e w4 ⟨zb, zk, rfl, hzk, hzc, hf4⟩; have HX4 := Lib.hid (Fr.keep hf4 HX3.out (fun h => h)); have HZ4 := Lib.hid (Fr.keep hf4 HZ3.out (fun h => h)); have HF4 := Lib.hid (HF3.out.then0 hf4); have HZC := Lib.hid hzc; have z40 := HZC.out w4 (Fr.refl _ _) 0 HL0.out; clear hf4 hzc))
                refine wp_loop_rounds 3 ?_
                rw [rounds_succ]
                go_wp2_with (first | ((with_reducible show wpList _ _ _ ({ dst := _, op := Op.load 37 _, type := _, pos := _, after := _, guard := _ } :: _) _ _); refine wpList_load_row_g (by rfl) 37 _ rfl w.heap.size rfl 37 X (0, 0) _ HX4.out Tryd.underlying37 rfl HIP.out ?_) | (go_at_call 29; (with_reducible refine (HRA.out _ HF4.out).mono ?_); rintro e w5 ⟨rfl, hf5⟩; have HZB5 := Lib.hid (Bk.new w5 (.cells ZB 22)); have hfx := Fr.then0 hf5 (show Fr0 w5 ((w5.alloc (.cells ZB 22)).setRow w5.heap.size LA) from ArrKit.Fr.row (Fr.alloc (Fr.refl _ _) _) _ _ (.inl (Nat.le_refl _))); have HX6 := Lib.hid (Fr.keep hfx HX4.out (fun h => h)); have HZ6 := Lib.hid (Fr.keep hfx HZ4.out (fun h => h)); have HF6 := Lib.hid (HF4.out.then0 hfx); have HY6 : Hid (Bk ((w5.alloc (.cells ZB 22)).setRow w5.heap.size LA) w5.heap.size LA 22) := Lib.hid (ArrKit.Bk.row HZB5.out _); have z61 := fun h => HZC.out ((w5.alloc (.cells ZB 22)).setRow w5.heap.size LA) hfx 1 h; clear hf5 hfx) | ((with_reducible show wpList _ _ _ ({ dst := _, op := Op.store 22 _ _, type := _, pos := _, after := _, guard := _ } :: _) _ _); refine wpList_store_row rfl 22 _ _ rfl w5.heap.size LA rfl rfl 22 ZB HZB5.out HIA.out HSA.out HOA.out ?_))
                have c61 := z61 (by simp)
                rw [rounds_succ]
                go_wp2_with (first | ((with_reducible show wpList _ _ _ ({ dst := _, op := Op.load 37 _, type := _, pos := _, after := _, guard := _ } :: _) _ _); refine wpList_load_row_g (by rfl) 37 _ rfl w.heap.size rfl 37 X (0, 0) _ HX6.out Tryd.underlying37 rfl HIP.out ?_) | (go_at_call 29; (with_reducible refine (HRB.out _ HF6.out).mono ?_); rintro e w7 ⟨rfl, hf7⟩; have HZB7 := Lib.hid (Bk.new w7 (.cells ZB 22)); have hfx := Fr.then0 hf7 (show Fr0 w7 ((w7.alloc (.cells ZB 22)).setRow w7.heap.size LBB) from ArrKit.Fr.row (Fr.alloc (Fr.refl _ _) _) _ _ (.inl (Nat.le_refl _))); have HX8 := Lib.hid (Fr.keep hfx HX6.out (fun h => h)); have HZ8 := Lib.hid (Fr.keep hfx HZ6.out (fun h => h)); have HF8 := Lib.hid (HF6.out.then0 hfx); have HY8 : Hid (Bk ((w7.alloc (.cells ZB 22)).setRow w7.heap.size LBB) w7.heap.size LBB 22) := Lib.hid (ArrKit.Bk.row HZB7.out _); have q80 : ((w7.alloc (.cells ZB 22)).setRow w7.heap.size LBB).cell? ⟨w.heap.size, 0, none⟩ = some (.int .i64 a) := (Bk.cell HX8.out 0).trans P0.out; have HG7 : Hid ((w.heap.size + 1) < w7.heap.size) := Lib.hid (Bk.lt (Fr.keep hf7 HZ6.out (fun h => h))); clear hf7 hfx) | ((with_reducible show wpList _ _ _ ({ dst := _, op := Op.store 22 _ _, type := _, pos := _, after := _, guard := _ } :: _) _ _); refine wpList_store_row rfl 22 _ _ rfl w7.heap.size LBB rfl rfl 22 ZB HZB7.out HIB.out HSB.out HOB.out ?_) | (go_at_call 30; (with_reducible refine (HHE.out _ HF8.out).mono ?_); rintro e w9 ⟨rfl, hp9, hf9⟩; have hpw := HPW.out; have HZ9 := Lib.hid (Fr.keep hf9 HZ8.out (by omega)); have hgt8 := Bk.lt HZ8.out; have HY9 := Lib.hid (Fr.keep hf9 HY8.out (by have h1 : (w.heap.size + 1) < w7.heap.size := HG7.out; omega)); have HP9 := Lib.hid hp9; have HF9 := Lib.hid ((HF8.out.weaken (fun _ _ h => h.elim)).trans hf9); clear hp9 hf9) | ((with_reducible show wpList _ _ _ ({ dst := _, op := Op.load 22 _, type := _, pos := _, after := _, guard := _ } :: _) _ _); refine wpList_load_row_g (by rfl) 22 _ rfl w7.heap.size rfl 22 LBB (0, 0) _ HY8.out Tryd.underlying22 rfl HIB.out ?_) | ((with_reducible show wpList _ _ _ ({ dst := _, op := Op.load 22 _, type := _, pos := _, after := _, guard := _ } :: _) _ _); refine wpList_load_row_g (by rfl) 22 _ rfl w7.heap.size rfl 22 LBB (0, 0) _ HY9.out Tryd.underlying22 rfl HIB.out ?_) | ((with_reducible show wpList _ _ _ ({ dst := _, op := Op.store 22 _ _, type := _, pos := _, after := _, guard := _ } :: _) _ _); refine wpList_store_row rfl 22 _ _ rfl (w.heap.size + 1) LBB rfl rfl 22 ZB HZ9.out HIB.out HSB.out HOB.out ?_))
                refine fin_ctt (w.heap.size + 1) 22 LBB (.int .i64 hn) (.int .i64 0) (by rfl) (by rfl) (by rfl) (by rfl) (by rfl) Tryd.underlying22 (by rfl) HIB.out (ArrKit.Bk.row HZ9.out _) ?_
                exact ⟨(by rw [← HLB.out]), PS.pastB (l := Z128) HP9.out (by rw [Z128_cells]; exact HZ9.out) (Fr.row1 _ _ _) (by have := HPW.out; omega) (by have := HPW.out; omega), (ArrKit.Fr.row HF9.out _ _ (.inl (by omega)))⟩
              · rw [if_pos (show he ≠ 0 from he0)]
                have heb : (he != 0) = true := by simpa using he0
                have hl : copL a b = [a, b] := by rw [hcl]; rw [if_neg hb1]
                rw [hl] at HCO HL0
                clear hcl hl
                go_enter Tryd.func11, Tryd.ntmps11
                go_wp2_with (first | (go_at_call 17; (with_reducible refine (HHO.out _ HF1.out).mono ?_); rintro e w2 ⟨rfl, hf2⟩; have HX2 := Lib.hid (Fr.keep hf2 HX1.out (fun h => h)); have HZ2 := Lib.hid (Fr.keep hf2 HZ1.out (fun h => h)); have HF2 := Lib.hid (HF1.out.then0 hf2); clear hf2) | ((with_reducible show wpList _ _ _ ({ dst := _, op := Op.load 37 _, type := _, pos := _, after := _, guard := _ } :: _) _ _); refine wpList_load_row_g (by rfl) 37 _ rfl w.heap.size rfl 37 X (0, 0) _ HX1.out Tryd.underlying37 rfl HIP.out ?_) | ((with_reducible show wpList _ _ _ ({ dst := _, op := Op.load 37 _, type := _, pos := _, after := _, guard := _ } :: _) _ _); refine wpList_load_row_g (by rfl) 37 _ rfl w.heap.size rfl 37 X (0, 0) _ HX2.out Tryd.underlying37 rfl HIP.out ?_) | ((with_reducible show wpList _ _ _ ({ dst := _, op := Op.load 37 _, type := _, pos := _, after := _, guard := _ } :: _) _ _); refine wpList_load_row_g (by rfl) 37 _ rfl w.heap.size rfl 37 X (0, 0) _ HX3.out Tryd.underlying37 rfl HIP.out ?_) | (go_at_call 28; (with_reducible refine (HIH.out _).mono ?_); rintro e w3 ⟨rfl, hf3⟩; have HX3 := Lib.hid (Fr.keep hf3 HX2.out (fun h => h)); have HZ3 := Lib.hid (Fr.keep hf3 HZ2.out (fun h => h)); have HF3 := Lib.hid (HF2.out.then0 hf3); have c33 := HC3.out _ HF3.out; clear hf3) | (go_at_call 18; (with_reducible refine (HCO.out _ hane).mono ?_); rintro e w4 ⟨zb, zk, rfl, hzk, hzc, hf4⟩; have HX4 := Lib.hid (Fr.keep hf4 HX3.out (fun h => h)); have HZ4 := Lib.hid (Fr.keep hf4 HZ3.out (fun h => h)); have HF4 := Lib.hid (HF3.out.then0 hf4); have HZC := Lib.hid hzc; have z40 := HZC.out w4 (Fr.refl _ _) 0 HL0.out; clear hf4 hzc))
                refine wp_loop_rounds 3 ?_
                rw [rounds_succ]
                go_wp2_with (first | ((with_reducible show wpList _ _ _ ({ dst := _, op := Op.load 37 _, type := _, pos := _, after := _, guard := _ } :: _) _ _); refine wpList_load_row_g (by rfl) 37 _ rfl w.heap.size rfl 37 X (0, 0) _ HX4.out Tryd.underlying37 rfl HIP.out ?_) | (go_at_call 29; (with_reducible refine (HRA.out _ HF4.out).mono ?_); rintro e w5 ⟨rfl, hf5⟩; have HZB5 := Lib.hid (Bk.new w5 (.cells ZB 22)); have hfx := Fr.then0 hf5 (show Fr0 w5 ((w5.alloc (.cells ZB 22)).setRow w5.heap.size LA) from ArrKit.Fr.row (Fr.alloc (Fr.refl _ _) _) _ _ (.inl (Nat.le_refl _))); have HX6 := Lib.hid (Fr.keep hfx HX4.out (fun h => h)); have HZ6 := Lib.hid (Fr.keep hfx HZ4.out (fun h => h)); have HF6 := Lib.hid (HF4.out.then0 hfx); have HY6 : Hid (Bk ((w5.alloc (.cells ZB 22)).setRow w5.heap.size LA) w5.heap.size LA 22) := Lib.hid (ArrKit.Bk.row HZB5.out _); have z61 := fun h => HZC.out ((w5.alloc (.cells ZB 22)).setRow w5.heap.size LA) hfx 1 h; clear hf5 hfx) | ((with_reducible show wpList _ _ _ ({ dst := _, op := Op.store 22 _ _, type := _, pos := _, after := _, guard := _ } :: _) _ _); refine wpList_store_row rfl 22 _ _ rfl w5.heap.size LA rfl rfl 22 ZB HZB5.out HIA.out HSA.out HOA.out ?_))
                have c61 := z61 (by simp)
                rw [rounds_succ]
                go_wp2_with (first | ((with_reducible show wpList _ _ _ ({ dst := _, op := Op.load 37 _, type := _, pos := _, after := _, guard := _ } :: _) _ _); refine wpList_load_row_g (by rfl) 37 _ rfl w.heap.size rfl 37 X (0, 0) _ HX6.out Tryd.underlying37 rfl HIP.out ?_) | (go_at_call 29; (with_reducible refine (HRB.out _ HF6.out).mono ?_); rintro e w7 ⟨rfl, hf7⟩; have HZB7 := Lib.hid (Bk.new w7 (.cells ZB 22)); have hfx := Fr.then0 hf7 (show Fr0 w7 ((w7.alloc (.cells ZB 22)).setRow w7.heap.size LBB) from ArrKit.Fr.row (Fr.alloc (Fr.refl _ _) _) _ _ (.inl (Nat.le_refl _))); have HX8 := Lib.hid (Fr.keep hfx HX6.out (fun h => h)); have HZ8 := Lib.hid (Fr.keep hfx HZ6.out (fun h => h)); have HF8 := Lib.hid (HF6.out.then0 hfx); have HY8 : Hid (Bk ((w7.alloc (.cells ZB 22)).setRow w7.heap.size LBB) w7.heap.size LBB 22) := Lib.hid (ArrKit.Bk.row HZB7.out _); have q80 : ((w7.alloc (.cells ZB 22)).setRow w7.heap.size LBB).cell? ⟨w.heap.size, 0, none⟩ = some (.int .i64 a) := (Bk.cell HX8.out 0).trans P0.out; have HG7 : Hid ((w.heap.size + 1) < w7.heap.size) := Lib.hid (Bk.lt (Fr.keep hf7 HZ6.out (fun h => h))); clear hf7 hfx) | ((with_reducible show wpList _ _ _ ({ dst := _, op := Op.store 22 _ _, type := _, pos := _, after := _, guard := _ } :: _) _ _); refine wpList_store_row rfl 22 _ _ rfl w7.heap.size LBB rfl rfl 22 ZB HZB7.out HIB.out HSB.out HOB.out ?_) | (go_at_call 30; (with_reducible refine (HHE.out _ HF8.out).mono ?_); rintro e w9 ⟨rfl, hp9, hf9⟩; have hpw := HPW.out; have HZ9 := Lib.hid (Fr.keep hf9 HZ8.out (by omega)); have hgt8 := Bk.lt HZ8.out; have HY9 := Lib.hid (Fr.keep hf9 HY8.out (by have h1 : (w.heap.size + 1) < w7.heap.size := HG7.out; omega)); have HP9 := Lib.hid hp9; have HF9 := Lib.hid ((HF8.out.weaken (fun _ _ h => h.elim)).trans hf9); clear hp9 hf9) | ((with_reducible show wpList _ _ _ ({ dst := _, op := Op.load 22 _, type := _, pos := _, after := _, guard := _ } :: _) _ _); refine wpList_load_row_g (by rfl) 22 _ rfl w7.heap.size rfl 22 LBB (0, 0) _ HY8.out Tryd.underlying22 rfl HIB.out ?_) | ((with_reducible show wpList _ _ _ ({ dst := _, op := Op.build 22 _, type := _, pos := _, after := _, guard := _ } :: _) _ _); refine build_ev rfl 22 _ rfl [] (by simp) ZB built_zb ?_) | ((with_reducible show wpList _ _ _ ({ dst := _, op := Op.store 22 _ _, type := _, pos := _, after := _, guard := _ } :: _) _ _); refine wpList_store_row rfl 22 _ _ rfl (w.heap.size + 1) ZB rfl rfl 22 ZB HZ9.out HZI.out rfl HZO.out ?_))
                refine fin_ctt (w.heap.size + 1) 22 ZB (.int .i64 0) (.int .i64 he) (by rfl) (by rfl) (by rfl) (by rfl) (by rfl) Tryd.underlying22 (by rfl) HZI.out (ArrKit.Bk.row HZ9.out _) ?_
                exact ⟨(congrArg (fun z => Ending.returned (.tuple #[.agg z, .int .i64 0, .int .i64 he])) Z128_cells.symm), PS.pastB (l := Z128) HP9.out (by rw [Z128_cells]; exact HZ9.out) (Fr.row1 _ _ _) (by have := HPW.out; omega) (by have := HPW.out; omega), (ArrKit.Fr.row HF9.out _ _ (.inl (by omega)))⟩

end Go.Proofs.YtmkmpfnadcmcoaaDoor.DitGet
