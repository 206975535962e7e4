/- The theorems that the claim uses, text behind text (part 30). -/
import Derived.Test.YtmkmpfnadcmcoaaGreatDoorZbc
set_option maxRecDepth 100000
set_option maxHeartbeats 8000000
set_option linter.unusedVariables false
set_option linter.unusedSimpArgs false
namespace Go.Proofs.YtmkmpfnadcmcoaaGreatDoor.DitGet
open Go Go.RowKit K EqKit ArrKit HeldKit GKit GRow DiskKit RmKit MapKit ShaStep RmRight RmRRight RmTab RmPut RmAsk RmSame DiskRRead RmRead RmReads DiskAct RmSpare RmKeep RmAliveP RmWrX RmWrite RmPair RowG PtrKit DitKit DitAsk DitHome
theorem results_ctt {P : Program} {fn : Func} {p u v : Tmp} {ty : TypeId} (h : fn.results = #[.cell p ty, .tmp u, .tmp v]) (tmps : Array Value) (w : World) (g : Nat) (t : TypeId) (cs : Array Value) (fr : Nat × Nat) (d : TypeDesc)
  (hp : tmps.getD p undef = .pointer (some ⟨g, 0, none⟩)) (hg : w.heap[g]? = some (.cells cs t fr))
  (hu : P.underlying ty = some d) (hd : (match d with | .struct _ | .array _ _ => true | _ => false) = true) (hi : (P.info? ty).map (·.size) = some cs.size) :
  (results fn tmps).run P w = .ok (.tuple #[.agg cs, tmps.getD u undef, tmps.getD v undef]) w := by
 have hp' : tmps[p]?.getD undef = .pointer (some ⟨g, 0, none⟩) := by simpa using hp
 simp [results, h, hp', asAddr, run_loadVar_row w g t ty cs fr d hg hu hd hi]
theorem fin_ctt {P : Program} {fn : Func} {R : Ending → World → Prop} {a : Act} {w : World} {p u v : Tmp} {ty : TypeId} (g : Nat) (t : TypeId) (cs : Array Value) (x y : Value) {d : TypeDesc}
  (h : fn.results = #[.cell p ty, .tmp u, .tmp v]) (hp : a.tmps.getD p undef = .pointer (some ⟨g, 0, none⟩)) (hx : a.tmps.getD u undef = x) (hy : a.tmps.getD v undef = y) (hds : a.defers = [])
  (hu : P.underlying ty = some d) (hd : (match d with | .struct _ | .array _ _ => true | _ => false) = true) (hi : (P.info? ty).map (·.size) = some cs.size)
  (hg : w.heap[g]? = some (.cells cs t (0, 0))) (hR : R (.returned (.tuple #[.agg cs, x, y])) w) : bodyPost P fn R .ret a w := by
 subst hx hy
 exact bodyPost_ret (results_ctt h _ _ g t cs (0, 0) d hp hg hu hd hi) hds hR
/-- a row of numbers that is not empty, as it lies -/
theorem row_at {w : World} {base : Nat} {v : Value} {l : List Int} (h : Row FI 1 3 w base v l) (hl : 0 < l.length) : ∃ zb k, v = .slice (some ⟨zb, 0, none⟩) l.length k ∧ l.length ≤ k ∧ ∀ W, Fr0 w W → ∀ j (hj : j < l.length), W.cell? ⟨zb, j, none⟩ = some (.int .i64 l[j]) := by
 obtain ⟨z, k, hv, hle, -, hrd, -, hz⟩ := h.form
 obtain ⟨zb, zo, rfl, -, -⟩ := RdG.form hrd hl (fun _ => by simp [FI])
 have e := (hz _ rfl).2
 have e0 : zo = 0 := by injection e
 subst e0
 refine ⟨zb, k, hv, hle, fun W f j hj => ?_⟩
 have := RdG.at (RdG.keep hrd f) hj 0 (.int .i64 l[j]) rfl
 rwa [Nat.zero_add, Nat.mul_one, Nat.add_zero] at this
theorem cell_byte {w : World} {g k t : Nat} {l : List UInt8} {v : Value} (hb : Bk w g (l.map B).toArray t) (h : w.cell? ⟨g, k, none⟩ = some v) : ∃ x : UInt8, v = B x := by
 rw [Bk.cell hb, List.getElem?_toArray, List.getElem?_map] at h
 cases hx : l[k]? with
 | none => rw [hx] at h; cases h
 | some y => rw [hx] at h; exact ⟨y, (Option.some.inj h).symm⟩
/-- a block of bytes is no place of sectors, of writes, or of pairs -/
theorem PS.pastB {w w1 : World} {p r g t : Nat} {d : Dk} {m : Rm} {l : List UInt8} (h : PS w p r d m) (hb : Bk w g (l.map B).toArray t) (f : Fr (fun i => i = g) w w1) (hp : p ≠ g) (hr : r ≠ g) : PS w1 p r d m := by
 obtain ⟨⟨sa, sc, ca, cc, h1⟩, a, c, h2, h3⟩ := h
 have hS : RdS w1 sa d.S := RdG.later h1.v.rs f (fun x e hl => by
  subst e
  rintro rfl
  obtain ⟨b, o, e0, -, hat⟩ := RdG.form h1.v.rs (List.length_pos_iff.2 hl) Sec.pos
  cases e0
  have hc := hat 0 (List.length_pos_iff.2 hl) (d.S[0]'(List.length_pos_iff.2 hl)).data.length (.bool (d.S[0]'(List.length_pos_iff.2 hl)).nr) (by
   rw [Sec.cells, List.getElem?_append_right (by simp)]; simp)
  obtain ⟨y, hy⟩ := cell_byte hb hc
  rw [B_def] at hy
  cases hy)
 have hC : RdC w1 ca d.C := RdG.later h1.v.rc f (fun x e hl => by
  subst e
  rintro rfl
  obtain ⟨b, o, e0, -, hat⟩ := RdG.form h1.v.rc (List.length_pos_iff.2 hl) Wri.ps
  cases e0
  have hc := hat 0 (List.length_pos_iff.2 hl) 0 (.int .i64 (d.C[0]'(List.length_pos_iff.2 hl)).pos) rfl
  obtain ⟨y, hy⟩ := cell_byte hb hc
  rw [B_def] at hy
  cases hy)
 have hP : RdP w1 a m.ps := RdG.later h3.rd f (fun x e hl => by
  subst e
  rintro rfl
  obtain ⟨b, o, e0, -, hat⟩ := RdG.form h3.rd (List.length_pos_iff.2 hl) (fun _ => by simp [PR])
  cases e0
  have hc := hat 0 (List.length_pos_iff.2 hl) 0 (.int .i64 (m.ps[0]'(List.length_pos_iff.2 hl)).1) rfl
  obtain ⟨y, hy⟩ := cell_byte hb hc
  rw [B_def] at hy
  cases hy)
 exact ⟨⟨sa, sc, ca, cc, f.keep h1.blk hp, ⟨hS, hC, h1.v.sn, h1.v.sm, h1.v.cn, h1.v.cm⟩⟩, a, c, f.keep h2 hr, ⟨hP, h3.len, h3.max⟩⟩
theorem built_zb : Tryz.prog.built 36 [] = some ZB := by kernel_rfl
theorem Z128_cells : (Z128.map B).toArray = ZB := by kernel_rfl

theorem get_calls (p r : Nat) (d : Dk) (m : Rm) (a b : Int) (s : List UInt8) (w : World) (hok : d.ok) (hm : m.ok) (hps : PS w p r d m) (hrp : r ≠ p) (hsh : Sh w) (hs : s.length = 32) (ha : (Lit.int .i64 a).wf = true) (hb : (Lit.int .i64 b).wf = true) (hC : d.C.length ≤ 900) : Calls Tryz.prog 9 #[.pointer (some ⟨p, 0, none⟩), .pointer (some ⟨r, 0, none⟩), .agg (PC a b s).toArray] w fun e w' => e = .returned (.tuple #[.agg ((getX d m a b s).1.1.map B).toArray, .int .i64 (getX d m a b s).1.2.1, .int .i64 (getX d m a b s).1.2.2]) ∧ PS w' p r (getX d m a b s).2.1 (getX d m a b s).2.2 ∧ Fr (fun i => i = p ∨ i = r) w w' := by
 have HHO : Jq7 (∀ W, Fr0 w W → Calls Tryz.prog 20 #[.pointer (some ⟨p, 0, none⟩), .pointer (some ⟨r, 0, none⟩), .agg (PC a b s).toArray] W fun e w' => e = .returned (.bool (homeB d m a b s)) ∧ Fr0 W w') := jq7 (fun W f => home_calls p r d m a b s W hok hm (hps.keep0 f) hs ha hb)
 have HIH : Jq7 (∀ W, Calls Tryz.prog 21 #[.agg (PC a b s).toArray] W fun e w' => e = .returned (.bool (PtrAsk.isH a b s)) ∧ Fr0 W w') := jq7 (fun W => PtrAsk.ish_calls a b s W hs ha hb)
 have HC3 : Jq7 (∀ W, Fr0 w W → W.cell? ⟨p, 3, none⟩ = some (.bool d.down)) := jq7 (fun W f => by
  obtain ⟨⟨sa, sc, ca, cc, hv⟩, -⟩ := hps.keep0 f
  exact Bk.cell hv.blk 3)
 have HCO : Jq7 (∀ W, a ≠ -1 → Calls Tryz.prog 22 #[.agg (PC a b s).toArray] W fun e w' => ∃ zb k, e = .returned (.slice (some ⟨zb, 0, none⟩) (copL a b).length k) ∧ (copL a b).length ≤ k ∧ (∀ W', Fr0 w' W' → ∀ j (hj : j < (copL a b).length), W'.cell? ⟨zb, j, none⟩ = some (.int .i64 (copL a b)[j])) ∧ Fr0 W w') := jq7 (fun W h => (copies_calls a b s W h).mono (by
  rintro e w' ⟨v, rfl, hrow, hf⟩
  obtain ⟨zb, k, hv, hle, hc⟩ := row_at hrow (by unfold copL; split <;> simp)
  exact ⟨zb, k, by rw [hv], hle, hc, hf⟩))
 have HRD : Jq7 (∀ q W, (Lit.int .i64 q).wf = true → Fr0 w W → Calls Tryz.prog 23 #[.pointer (some ⟨p, 0, none⟩), .pointer (some ⟨r, 0, none⟩), .agg (PC a b s).toArray, .int .i64 q] W fun e w' => e = .returned (.tuple #[.agg ((rdG d m a b s q).1.map B).toArray, .bool (rdG d m a b s q).2]) ∧ Fr0 W w') := jq7 (fun q W hq f => DitRead.read_calls p r d m a b q s W hok hm (hps.keep0 f) (hsh.keep0 f) hs ha hb hq)
 have hlb := rdG_len hok m a b s b
 have hla := rdG_len hok m a b s a
 have HHE : Jq7 (∀ W, Fr0 w W → Calls Tryz.prog 24 #[.pointer (some ⟨p, 0, none⟩), .pointer (some ⟨r, 0, none⟩), .int .i64 a, .agg ((rdG d m a b s b).1.map B).toArray] W fun e w' => e = .returned (.tuple #[.int .i64 (healX d m a (rdG d m a b s b).1).1, .int .i64 (healX d m a (rdG d m a b s b).1).2.1]) ∧ PS w' p r (healX d m a (rdG d m a b s b).1).2.2.1 (healX d m a (rdG d m a b s b).1).2.2.2 ∧ Fr (fun i => i = p ∨ i = r) W w') := jq7 (fun W f => heal_calls p r d m a _ W hok hm (hps.keep0 f) hrp (hsh.keep0 f) ha hlb hC)
 have HWA := jq7 ha
 have HWB := jq7 hb
 have HPS := jq7 hps
 have HPW : Jq7 (p < w.heap.size ∧ r < w.heap.size) := jq7 (by
  obtain ⟨⟨sa, sc, ca, cc, hv⟩, ra, rc, hb1, -⟩ := hps
  exact ⟨Bk.lt hv.blk, Bk.lt hb1⟩)
 have HIP := jq7 (info_ptr a b hs)
 have HIA := jq7 (info_l hla)
 have HSA := jq7 (size_l hla)
 have HOA := jq7 (one_l (rdG d m a b s a).1)
 have HIB := jq7 (info_l hlb)
 have HSB := jq7 (size_l hlb)
 have HOB := jq7 (one_l (rdG d m a b s b).1)
 have P0 : Jq7 ((PC a b s).toArray[0]? = some (.int .i64 a)) := jq7 rfl
 have HZI : Jq7 ((Tryz.prog.info? 36).map (·.size) = some ZB.size) := jq7 (by have := info_l (show Z128.length = 128 by simp [Z128]); rwa [Z128_cells] at this)
 have HZO : Jq7 (ZB.all (·.oneCell') = true) := jq7 (by have := one_l Z128; rwa [Z128_cells] at this)
 have hcl : copL a b = if b = -1 then [a] else [a, b] := rfl
 have hhm : homeB d m a b s = true → PtrAsk.isH a b s = false → a ≠ -1 := fun h1 h2 => by
  unfold homeB at h1
  simp only [Bool.and_eq_true] at h1
  have h3 := h1.2.2.1
  unfold PtrAsk.rightB at h3
  rw [h2, Bool.false_or, Bool.and_eq_true] at h3
  have h4 := h3.1
  unfold PtrAsk.secB at h4
  have := of_decide_eq_true h4
  omega
 have hzb := zero_bl
 unfold getX
 clear hok hm hps hrp hsh hs ha hb hC hlb hla
 generalize (PC a b s).toArray = X at *
 have HRA := jq7 (fun W => HRD.o a W HWA.o)
 have HRB := jq7 (fun W => HRD.o b W HWB.o)
 obtain ⟨LA, hLA⟩ : ∃ z, ((rdG d m a b s a).1.map B).toArray = z := ⟨_, rfl⟩
 obtain ⟨LBB, hLB⟩ : ∃ z, ((rdG d m a b s b).1.map B).toArray = z := ⟨_, rfl⟩
 rw [hLA] at HRA HIA HSA HOA
 rw [hLB] at HRB HHE HIB HSB HOB
 have HLA := jq7 hLA
 have HLB := jq7 hLB
 clear hLA hLB HRD
 have HX1 : Jq7 (Bk ((w.alloc (.cells X 31)).alloc (.cells ZB 36)) w.heap.size X 31) := jq7 (Bk.alloc (Bk.new w _) _)
 have HZ1 : Jq7 (Bk ((w.alloc (.cells X 31)).alloc (.cells ZB 36)) (w.heap.size + 1) ZB 36) := jq7 (by have := Bk.new (w.alloc (.cells X 31)) (.cells ZB 36); rwa [show (w.alloc (.cells X 31)).heap.size = w.heap.size + 1 by simp] at this)
 have HF1 : Jq7 (Fr0 w ((w.alloc (.cells X 31)).alloc (.cells ZB 36))) := jq7 (Fr.alloc (Fr.alloc (Fr.refl _ _) _) _)
 cases hh : homeB d m a b s with
 | false =>
  rw [if_pos (show false = false from rfl)]
  rw [hh] at HHO
  clear hh hhm
  go_enter Tryz.func9, Tryz.ntmps9
  go_wp2_with (first | (go_at_call 20; (with_reducible refine (HHO.o _ HF1.o).mono ?_); rintro e w2 ⟨rfl, hf2⟩; have HX2 := jq7 (Fr.keep hf2 HX1.o (fun h => h)); have HZ2 := jq7 (Fr.keep hf2 HZ1.o (fun h => h)); have HF2 := jq7 (HF1.o.then0 hf2); clear hf2) | ((with_reducible show wpList _ _ _ (qo _ (Op.load 31 _) _ _ _ _ _) _ _); refine lr 31 w.heap.size X HX1.o HIP.o ?_) | ((with_reducible show wpList _ _ _ (qo _ (Op.load 36 _) _ _ _ _ _) _ _); refine lr 36 (w.heap.size + 1) ZB HZ2.o HZI.o ?_) | ((with_reducible show wpList _ _ _ (qo _ (Op.store 36 _ _) _ _ _ _ _) _ _); refine wpList_store_row rfl 36 _ _ rfl (w.heap.size + 1) ZB rfl rfl 36 ZB HZ2.o HZI.o rfl HZO.o ?_))
  refine fin_ctt (w.heap.size + 1) 36 ZB (.int .i64 0) (.int .i64 1) (by rfl) (by rfl) (by rfl) (by rfl) (by rfl) Tryz.underlying36 (by rfl) HZI.o (ArrKit.Bk.row HZ2.o _) ?_
  exact ⟨(congrArg (fun z => Ending.returned (.tuple #[.agg z, .int .i64 0, .int .i64 1])) Z128_cells.symm), HPS.o.keep0 (ArrKit.Fr.row HF2.o _ _ (.inl (by omega))), Fr.weaken (ArrKit.Fr.row HF2.o _ _ (.inl (by omega))) (fun _ _ h => h.elim)⟩
 | true =>
  cases hi : PtrAsk.isH a b s with
  | true =>
   rw [if_neg (show ¬ true = false by decide), if_pos (show true = true from rfl)]
   rw [hh] at HHO
   rw [hi] at HIH
   clear hh hi hhm
   go_enter Tryz.func9, Tryz.ntmps9
   go_wp2_with (first | (go_at_call 20; (with_reducible refine (HHO.o _ HF1.o).mono ?_); rintro e w2 ⟨rfl, hf2⟩; have HX2 := jq7 (Fr.keep hf2 HX1.o (fun h => h)); have HZ2 := jq7 (Fr.keep hf2 HZ1.o (fun h => h)); have HF2 := jq7 (HF1.o.then0 hf2); clear hf2) | ((with_reducible show wpList _ _ _ (qo _ (Op.load 31 _) _ _ _ _ _) _ _); refine lr 31 w.heap.size X HX1.o HIP.o ?_) | ((with_reducible show wpList _ _ _ (qo _ (Op.load 31 _) _ _ _ _ _) _ _); refine lr 31 w.heap.size X HX2.o HIP.o ?_) | (go_at_call 21; (with_reducible refine (HIH.o _).mono ?_); rintro e w3 ⟨rfl, hf3⟩; have HX3 := jq7 (Fr.keep hf3 HX2.o (fun h => h)); have HZ3 := jq7 (Fr.keep hf3 HZ2.o (fun h => h)); have HF3 := jq7 (HF2.o.then0 hf3); have c33 := HC3.o _ HF3.o; clear hf3) | ((with_reducible show wpList _ _ _ (qo _ (Op.load 36 _) _ _ _ _ _) _ _); refine lr 36 (w.heap.size + 1) ZB HZ3.o HZI.o ?_) | ((with_reducible show wpList _ _ _ (qo _ (Op.store 36 _ _) _ _ _ _ _) _ _); refine wpList_store_row rfl 36 _ _ rfl (w.heap.size + 1) ZB rfl rfl 36 ZB HZ3.o HZI.o rfl HZO.o ?_))
   refine fin_ctt (w.heap.size + 1) 36 ZB (.int .i64 0) (.int .i64 0) (by rfl) (by rfl) (by rfl) (by rfl) (by rfl) Tryz.underlying36 (by rfl) HZI.o (ArrKit.Bk.row HZ3.o _) ?_
   exact ⟨(congrArg (fun z => Ending.returned (.tuple #[.agg z, .int .i64 0, .int .i64 0])) Z128_cells.symm), HPS.o.keep0 (ArrKit.Fr.row HF3.o _ _ (.inl (by omega))), Fr.weaken (ArrKit.Fr.row HF3.o _ _ (.inl (by omega))) (fun _ _ h => h.elim)⟩
  | false =>
   cases hd : d.down with
   | true =>
    rw [if_neg (show ¬ true = false by decide), if_neg (show ¬ false = true by decide), if_pos (show true = true from rfl)]
    rw [hh] at HHO
    rw [hi] at HIH
    rw [hd] at HC3
    clear hh hi hd hhm
    go_enter Tryz.func9, Tryz.ntmps9
    go_wp2_with (first | (go_at_call 20; (with_reducible refine (HHO.o _ HF1.o).mono ?_); rintro e w2 ⟨rfl, hf2⟩; have HX2 := jq7 (Fr.keep hf2 HX1.o (fun h => h)); have HZ2 := jq7 (Fr.keep hf2 HZ1.o (fun h => h)); have HF2 := jq7 (HF1.o.then0 hf2); clear hf2) | ((with_reducible show wpList _ _ _ (qo _ (Op.load 31 _) _ _ _ _ _) _ _); refine lr 31 w.heap.size X HX1.o HIP.o ?_) | ((with_reducible show wpList _ _ _ (qo _ (Op.load 31 _) _ _ _ _ _) _ _); refine lr 31 w.heap.size X HX2.o HIP.o ?_) | (go_at_call 21; (with_reducible refine (HIH.o _).mono ?_); rintro e w3 ⟨rfl, hf3⟩; have HX3 := jq7 (Fr.keep hf3 HX2.o (fun h => h)); have HZ3 := jq7 (Fr.keep hf3 HZ2.o (fun h => h)); have HF3 := jq7 (HF2.o.then0 hf3); have c33 := HC3.o _ HF3.o; clear hf3) | ((with_reducible show wpList _ _ _ (qo _ (Op.load 36 _) _ _ _ _ _) _ _); refine lr 36 (w.heap.size + 1) ZB HZ3.o HZI.o ?_) | ((with_reducible show wpList _ _ _ (qo _ (Op.store 36 _ _) _ _ _ _ _) _ _); refine wpList_store_row rfl 36 _ _ rfl (w.heap.size + 1) ZB rfl rfl 36 ZB HZ3.o HZI.o rfl HZO.o ?_))
    refine fin_ctt (w.heap.size + 1) 36 ZB (.int .i64 0) (.int .i64 3) (by rfl) (by rfl) (by rfl) (by rfl) (by rfl) Tryz.underlying36 (by rfl) HZI.o (ArrKit.Bk.row HZ3.o _) ?_
    exact ⟨(congrArg (fun z => Ending.returned (.tuple #[.agg z, .int .i64 0, .int .i64 3])) Z128_cells.symm), HPS.o.keep0 (ArrKit.Fr.row HF3.o _ _ (.inl (by omega))), Fr.weaken (ArrKit.Fr.row HF3.o _ _ (.inl (by omega))) (fun _ _ h => h.elim)⟩
   | false =>
    have hane := hhm hh hi
    rw [if_neg (show ¬ true = false by decide), if_neg (show ¬ false = true by decide), if_neg (show ¬ false = true by decide)]
    rw [hh] at HHO
    rw [hi] at HIH
    rw [hd] at HC3
    clear hh hi hd hhm
    have HL0 : Jq7 (0 < (copL a b).length) := jq7 (by rw [hcl]; split <;> simp)
    cases hga : (rdG d m a b s a).2 with
    | true =>
     rw [if_pos (show true = true from rfl)]
     rw [hga] at HRA
     clear hga
     have hz0 : (copL a b)[0]? = some a := by rw [hcl]; split <;> rfl
     by_cases hb1 : b = -1
     ·have hl : copL a b = [a] := by rw [hcl]; rw [if_pos hb1]
      rw [hl] at HCO HL0
      clear hcl hl
      clear hz0
      go_enter Tryz.func9, Tryz.ntmps9
      go_wp2_with (first | (go_at_call 20; (with_reducible refine (HHO.o _ HF1.o).mono ?_); rintro e w2 ⟨rfl, hf2⟩; have HX2 := jq7 (Fr.keep hf2 HX1.o (fun h => h)); have HZ2 := jq7 (Fr.keep hf2 HZ1.o (fun h => h)); have HF2 := jq7 (HF1.o.then0 hf2); clear hf2) | ((with_reducible show wpList _ _ _ (qo _ (Op.load 31 _) _ _ _ _ _) _ _); refine lr 31 w.heap.size X HX1.o HIP.o ?_) | ((with_reducible show wpList _ _ _ (qo _ (Op.load 31 _) _ _ _ _ _) _ _); refine lr 31 w.heap.size X HX2.o HIP.o ?_) | ((with_reducible show wpList _ _ _ (qo _ (Op.load 31 _) _ _ _ _ _) _ _); refine lr 31 w.heap.size X HX3.o HIP.o ?_) | (go_at_call 21; (with_reducible refine (HIH.o _).mono ?_); rintro e w3 ⟨rfl, hf3⟩; have HX3 := jq7 (Fr.keep hf3 HX2.o (fun h => h)); have HZ3 := jq7 (Fr.keep hf3 HZ2.o (fun h => h)); have HF3 := jq7 (HF2.o.then0 hf3); have c33 := HC3.o _ HF3.o; clear hf3) | (go_at_call 22; (with_reducible refine (HCO.o _ hane).mono ?_); rintro e w4 ⟨zb, zk, rfl, hzk, hzc, hf4⟩; have HX4 := jq7 (Fr.keep hf4 HX3.o (fun h => h)); have HZ4 := jq7 (Fr.keep hf4 HZ3.o (fun h => h)); have HF4 := jq7 (HF3.o.then0 hf4); have HZC := jq7 hzc; have z40 := HZC.o w4 (Fr.refl _ _) 0 HL0.o; clear hf4 hzc))
      refine wp_loop_rounds 3 ?_
      rw [rounds_succ]
      go_wp2_with (first | ((with_reducible show wpList _ _ _ (qo _ (Op.load 31 _) _ _ _ _ _) _ _); refine lr 31 w.heap.size X HX4.o HIP.o ?_) | (go_at_call 23; (with_reducible refine (HRA.o _ HF4.o).mono ?_); rintro e w5 ⟨rfl, hf5⟩; have HZB5 := jq7 (Bk.new w5 (.cells ZB 36)); have hfx := Fr.then0 hf5 (show Fr0 w5 ((w5.alloc (.cells ZB 36)).setRow w5.heap.size LA) from ArrKit.Fr.row (Fr.alloc (Fr.refl _ _) _) _ _ (.inl (Nat.le_refl _))); have HX6 := jq7 (Fr.keep hfx HX4.o (fun h => h)); have HZ6 := jq7 (Fr.keep hfx HZ4.o (fun h => h)); have HF6 := jq7 (HF4.o.then0 hfx); have HY6 : Jq7 (Bk ((w5.alloc (.cells ZB 36)).setRow w5.heap.size LA) w5.heap.size LA 36) := jq7 (ArrKit.Bk.row HZB5.o _); have z61 := fun h => HZC.o ((w5.alloc (.cells ZB 36)).setRow w5.heap.size LA) hfx 1 h; clear hf5 hfx) | ((with_reducible show wpList _ _ _ (qo _ (Op.store 36 _ _) _ _ _ _ _) _ _); refine wpList_store_row rfl 36 _ _ rfl w5.heap.size LA rfl rfl 36 ZB HZB5.o HIA.o HSA.o HOA.o ?_) | ((with_reducible show wpList _ _ _ (qo _ (Op.load 36 _) _ _ _ _ _) _ _); refine lr 36 w5.heap.size LA HY6.o HIA.o ?_) | ((with_reducible show wpList _ _ _ (qo _ (Op.store 36 _ _) _ _ _ _ _) _ _); refine wpList_store_row rfl 36 _ _ rfl (w.heap.size + 1) LA rfl rfl 36 ZB HZ6.o HIA.o HSA.o HOA.o ?_))
      refine fin_ctt (w.heap.size + 1) 36 LA (.int .i64 0) (.int .i64 0) (by rfl) (by rfl) (by rfl) (by rfl) (by rfl) Tryz.underlying36 (by rfl) HIA.o (ArrKit.Bk.row HZ6.o _) ?_
      exact ⟨(by rw [← HLA.o]), HPS.o.keep0 (ArrKit.Fr.row HF6.o _ _ (.inl (by omega))), Fr.weaken (ArrKit.Fr.row HF6.o _ _ (.inl (by omega))) (fun _ _ h => h.elim)⟩
     ·have hl : copL a b = [a, b] := by rw [hcl]; rw [if_neg hb1]
      rw [hl] at HCO HL0
      clear hcl hl
      clear hz0
      go_enter Tryz.func9, Tryz.ntmps9
      go_wp2_with (first | (go_at_call 20; (with_reducible refine (HHO.o _ HF1.o).mono ?_); rintro e w2 ⟨rfl, hf2⟩; have HX2 := jq7 (Fr.keep hf2 HX1.o (fun h => h)); have HZ2 := jq7 (Fr.keep hf2 HZ1.o (fun h => h)); have HF2 := jq7 (HF1.o.then0 hf2); clear hf2) | ((with_reducible show wpList _ _ _ (qo _ (Op.load 31 _) _ _ _ _ _) _ _); refine lr 31 w.heap.size X HX1.o HIP.o ?_) | ((with_reducible show wpList _ _ _ (qo _ (Op.load 31 _) _ _ _ _ _) _ _); refine lr 31 w.heap.size X HX2.o HIP.o ?_) | ((with_reducible show wpList _ _ _ (qo _ (Op.load 31 _) _ _ _ _ _) _ _); refine lr 31 w.heap.size X HX3.o HIP.o ?_) | (go_at_call 21; (with_reducible refine (HIH.o _).mono ?_); rintro e w3 ⟨rfl, hf3⟩; have HX3 := jq7 (Fr.keep hf3 HX2.o (fun h => h)); have HZ3 := jq7 (Fr.keep hf3 HZ2.o (fun h => h)); have HF3 := jq7 (HF2.o.then0 hf3); have c33 := HC3.o _ HF3.o; clear hf3) | (go_at_call 22; (with_reducible refine (HCO.o _ hane).mono ?_); rintro e w4 ⟨zb, zk, rfl, hzk, hzc, hf4⟩; have HX4 := jq7 (Fr.keep hf4 HX3.o (fun h => h)); have HZ4 := jq7 (Fr.keep hf4 HZ3.o (fun h => h)); have HF4 := jq7 (HF3.o.then0 hf4); have HZC := jq7 hzc; have z40 := HZC.o w4 (Fr.refl _ _) 0 HL0.o; clear hf4 hzc))
      refine wp_loop_rounds 3 ?_
      rw [rounds_succ]
      go_wp2_with (first | ((with_reducible show wpList _ _ _ (qo _ (Op.load 31 _) _ _ _ _ _) _ _); refine lr 31 w.heap.size X HX4.o HIP.o ?_) | (go_at_call 23; (with_reducible refine (HRA.o _ HF4.o).mono ?_); rintro e w5 ⟨rfl, hf5⟩; have HZB5 := jq7 (Bk.new w5 (.cells ZB 36)); have hfx := Fr.then0 hf5 (show Fr0 w5 ((w5.alloc (.cells ZB 36)).setRow w5.heap.size LA) from ArrKit.Fr.row (Fr.alloc (Fr.refl _ _) _) _ _ (.inl (Nat.le_refl _))); have HX6 := jq7 (Fr.keep hfx HX4.o (fun h => h)); have HZ6 := jq7 (Fr.keep hfx HZ4.o (fun h => h)); have HF6 := jq7 (HF4.o.then0 hfx); have HY6 : Jq7 (Bk ((w5.alloc (.cells ZB 36)).setRow w5.heap.size LA) w5.heap.size LA 36) := jq7 (ArrKit.Bk.row HZB5.o _); have z61 := fun h => HZC.o ((w5.alloc (.cells ZB 36)).setRow w5.heap.size LA) hfx 1 h; clear hf5 hfx) | ((with_reducible show wpList _ _ _ (qo _ (Op.store 36 _ _) _ _ _ _ _) _ _); refine wpList_store_row rfl 36 _ _ rfl w5.heap.size LA rfl rfl 36 ZB HZB5.o HIA.o HSA.o HOA.o ?_) | ((with_reducible show wpList _ _ _ (qo _ (Op.load 36 _) _ _ _ _ _) _ _); refine lr 36 w5.heap.size LA HY6.o HIA.o ?_) | ((with_reducible show wpList _ _ _ (qo _ (Op.store 36 _ _) _ _ _ _ _) _ _); refine wpList_store_row rfl 36 _ _ rfl (w.heap.size + 1) LA rfl rfl 36 ZB HZ6.o HIA.o HSA.o HOA.o ?_))
      refine fin_ctt (w.heap.size + 1) 36 LA (.int .i64 0) (.int .i64 0) (by rfl) (by rfl) (by rfl) (by rfl) (by rfl) Tryz.underlying36 (by rfl) HIA.o (ArrKit.Bk.row HZ6.o _) ?_
      exact ⟨(by rw [← HLA.o]), HPS.o.keep0 (ArrKit.Fr.row HF6.o _ _ (.inl (by omega))), Fr.weaken (ArrKit.Fr.row HF6.o _ _ (.inl (by omega))) (fun _ _ h => h.elim)⟩
    | false =>
     rw [if_neg (show ¬ false = true by decide)]
     rw [hga] at HRA
     clear hga
     by_cases hb1 : b = -1
     ·rw [if_pos hb1]
      have hl : copL a b = [a] := by rw [hcl]; rw [if_pos hb1]
      rw [hl] at HCO HL0
      clear hcl hl
      go_enter Tryz.func9, Tryz.ntmps9
      go_wp2_with (first | (go_at_call 20; (with_reducible refine (HHO.o _ HF1.o).mono ?_); rintro e w2 ⟨rfl, hf2⟩; have HX2 := jq7 (Fr.keep hf2 HX1.o (fun h => h)); have HZ2 := jq7 (Fr.keep hf2 HZ1.o (fun h => h)); have HF2 := jq7 (HF1.o.then0 hf2); clear hf2) | ((with_reducible show wpList _ _ _ (qo _ (Op.load 31 _) _ _ _ _ _) _ _); refine lr 31 w.heap.size X HX1.o HIP.o ?_) | ((with_reducible show wpList _ _ _ (qo _ (Op.load 31 _) _ _ _ _ _) _ _); refine lr 31 w.heap.size X HX2.o HIP.o ?_) | ((with_reducible show wpList _ _ _ (qo _ (Op.load 31 _) _ _ _ _ _) _ _); refine lr 31 w.heap.size X HX3.o HIP.o ?_) | (go_at_call 21; (with_reducible refine (HIH.o _).mono ?_); rintro e w3 ⟨rfl, hf3⟩; have HX3 := jq7 (Fr.keep hf3 HX2.o (fun h => h)); have HZ3 := jq7 (Fr.keep hf3 HZ2.o (fun h => h)); have HF3 := jq7 (HF2.o.then0 hf3); have c33 := HC3.o _ HF3.o; clear hf3) | (go_at_call 22; (with_reducible refine (HCO.o _ hane).mono ?_); rintro e w4 ⟨zb, zk, rfl, hzk, hzc, hf4⟩; have HX4 := jq7 (Fr.keep hf4 HX3.o (fun h => h)); have HZ4 := jq7 (Fr.keep hf4 HZ3.o (fun h => h)); have HF4 := jq7 (HF3.o.then0 hf4); have HZC := jq7 hzc; have z40 := HZC.o w4 (Fr.refl _ _) 0 HL0.o; clear hf4 hzc))
      refine wp_loop_rounds 3 ?_
      rw [rounds_succ]
      go_wp2_with (first | ((with_reducible show wpList _ _ _ (qo _ (Op.load 31 _) _ _ _ _ _) _ _); refine lr 31 w.heap.size X HX4.o HIP.o ?_) | (go_at_call 23; (with_reducible refine (HRA.o _ HF4.o).mono ?_); rintro e w5 ⟨rfl, hf5⟩; have HZB5 := jq7 (Bk.new w5 (.cells ZB 36)); have hfx := Fr.then0 hf5 (show Fr0 w5 ((w5.alloc (.cells ZB 36)).setRow w5.heap.size LA) from ArrKit.Fr.row (Fr.alloc (Fr.refl _ _) _) _ _ (.inl (Nat.le_refl _))); have HX6 := jq7 (Fr.keep hfx HX4.o (fun h => h)); have HZ6 := jq7 (Fr.keep hfx HZ4.o (fun h => h)); have HF6 := jq7 (HF4.o.then0 hfx); have HY6 : Jq7 (Bk ((w5.alloc (.cells ZB 36)).setRow w5.heap.size LA) w5.heap.size LA 36) := jq7 (ArrKit.Bk.row HZB5.o _); have z61 := fun h => HZC.o ((w5.alloc (.cells ZB 36)).setRow w5.heap.size LA) hfx 1 h; clear hf5 hfx) | ((with_reducible show wpList _ _ _ (qo _ (Op.store 36 _ _) _ _ _ _ _) _ _); refine wpList_store_row rfl 36 _ _ rfl w5.heap.size LA rfl rfl 36 ZB HZB5.o HIA.o HSA.o HOA.o ?_))
      rw [rounds_succ]
      go_wp2_with (first | ((with_reducible show wpList _ _ _ (qo _ (Op.load 36 _) _ _ _ _ _) _ _); refine lr 36 (w.heap.size + 1) ZB HZ6.o HZI.o ?_) | ((with_reducible show wpList _ _ _ (qo _ (Op.store 36 _ _) _ _ _ _ _) _ _); refine wpList_store_row rfl 36 _ _ rfl (w.heap.size + 1) ZB rfl rfl 36 ZB HZ6.o HZI.o rfl HZO.o ?_))
      refine fin_ctt (w.heap.size + 1) 36 ZB (.int .i64 0) (.int .i64 2) (by rfl) (by rfl) (by rfl) (by rfl) (by rfl) Tryz.underlying36 (by rfl) HZI.o (ArrKit.Bk.row HZ6.o _) ?_
      exact ⟨(congrArg (fun z => Ending.returned (.tuple #[.agg z, .int .i64 0, .int .i64 2])) Z128_cells.symm), HPS.o.keep0 (ArrKit.Fr.row HF6.o _ _ (.inl (by omega))), Fr.weaken (ArrKit.Fr.row HF6.o _ _ (.inl (by omega))) (fun _ _ h => h.elim)⟩
     ·rw [if_neg hb1]
      cases hgb : (rdG d m a b s b).2 with
      | false =>
       rw [if_pos (show false = false from rfl)]
       rw [hgb] at HRB
       clear hgb
       have hl : copL a b = [a, b] := by rw [hcl]; rw [if_neg hb1]
       rw [hl] at HCO HL0
       clear hcl hl
       go_enter Tryz.func9, Tryz.ntmps9
       go_wp2_with (first | (go_at_call 20; (with_reducible refine (HHO.o _ HF1.o).mono ?_); rintro e w2 ⟨rfl, hf2⟩; have HX2 := jq7 (Fr.keep hf2 HX1.o (fun h => h)); have HZ2 := jq7 (Fr.keep hf2 HZ1.o (fun h => h)); have HF2 := jq7 (HF1.o.then0 hf2); clear hf2) | ((with_reducible show wpList _ _ _ (qo _ (Op.load 31 _) _ _ _ _ _) _ _); refine lr 31 w.heap.size X HX1.o HIP.o ?_) | ((with_reducible show wpList _ _ _ (qo _ (Op.load 31 _) _ _ _ _ _) _ _); refine lr 31 w.heap.size X HX2.o HIP.o ?_) | ((with_reducible show wpList _ _ _ (qo _ (Op.load 31 _) _ _ _ _ _) _ _); refine lr 31 w.heap.size X HX3.o HIP.o ?_) | (go_at_call 21; (with_reducible refine (HIH.o _).mono ?_); rintro e w3 ⟨rfl, hf3⟩; have HX3 := jq7 (Fr.keep hf3 HX2.o (fun h => h)); have HZ3 := jq7 (Fr.keep hf3 HZ2.o (fun h => h)); have HF3 := jq7 (HF2.o.then0 hf3); have c33 := HC3.o _ HF3.o; clear hf3) | (go_at_call 22; (with_reducible refine (HCO.o _ hane).mono ?_); rintro e w4 ⟨zb, zk, rfl, hzk, hzc, hf4⟩; have HX4 := jq7 (Fr.keep hf4 HX3.o (fun h => h)); have HZ4 := jq7 (Fr.keep hf4 HZ3.o (fun h => h)); have HF4 := jq7 (HF3.o.then0 hf4); have HZC := jq7 hzc; have z40 := HZC.o w4 (Fr.refl _ _) 0 HL0.o; clear hf4 hzc))
       refine wp_loop_rounds 3 ?_
       rw [rounds_succ]
       go_wp2_with (first | ((with_reducible show wpList _ _ _ (qo _ (Op.load 31 _) _ _ _ _ _) _ _); refine lr 31 w.heap.size X HX4.o HIP.o ?_) | (go_at_call 23; (with_reducible refine (HRA.o _ HF4.o).mono ?_); rintro e w5 ⟨rfl, hf5⟩; have HZB5 := jq7 (Bk.new w5 (.cells ZB 36)); have hfx := Fr.then0 hf5 (show Fr0 w5 ((w5.alloc (.cells ZB 36)).setRow w5.heap.size LA) from ArrKit.Fr.row (Fr.alloc (Fr.refl _ _) _) _ _ (.inl (Nat.le_refl _))); have HX6 := jq7 (Fr.keep hfx HX4.o (fun h => h)); have HZ6 := jq7 (Fr.keep hfx HZ4.o (fun h => h)); have HF6 := jq7 (HF4.o.then0 hfx); have HY6 : Jq7 (Bk ((w5.alloc (.cells ZB 36)).setRow w5.heap.size LA) w5.heap.size LA 36) := jq7 (ArrKit.Bk.row HZB5.o _); have z61 := fun h => HZC.o ((w5.alloc (.cells ZB 36)).setRow w5.heap.size LA) hfx 1 h; clear hf5 hfx) | ((with_reducible show wpList _ _ _ (qo _ (Op.store 36 _ _) _ _ _ _ _) _ _); refine wpList_store_row rfl 36 _ _ rfl w5.heap.size LA rfl rfl 36 ZB HZB5.o HIA.o HSA.o HOA.o ?_))
       have c61 := z61 (by simp)
       rw [rounds_succ]
       go_wp2_with (first | ((with_reducible show wpList _ _ _ (qo _ (Op.load 31 _) _ _ _ _ _) _ _); refine lr 31 w.heap.size X HX6.o HIP.o ?_) | (go_at_call 23; (with_reducible refine (HRB.o _ HF6.o).mono ?_); rintro e w7 ⟨rfl, hf7⟩; have HZB7 := jq7 (Bk.new w7 (.cells ZB 36)); have hfx := Fr.then0 hf7 (show Fr0 w7 ((w7.alloc (.cells ZB 36)).setRow w7.heap.size LBB) from ArrKit.Fr.row (Fr.alloc (Fr.refl _ _) _) _ _ (.inl (Nat.le_refl _))); have HX8 := jq7 (Fr.keep hfx HX6.o (fun h => h)); have HZ8 := jq7 (Fr.keep hfx HZ6.o (fun h => h)); have HF8 := jq7 (HF6.o.then0 hfx); have HY8 : Jq7 (Bk ((w7.alloc (.cells ZB 36)).setRow w7.heap.size LBB) w7.heap.size LBB 36) := jq7 (ArrKit.Bk.row HZB7.o _); have q80 : ((w7.alloc (.cells ZB 36)).setRow w7.heap.size LBB).cell? ⟨w.heap.size, 0, none⟩ = some (.int .i64 a) := (Bk.cell HX8.o 0).trans P0.o; clear hf7 hfx) | ((with_reducible show wpList _ _ _ (qo _ (Op.store 36 _ _) _ _ _ _ _) _ _); refine wpList_store_row rfl 36 _ _ rfl w7.heap.size LBB rfl rfl 36 ZB HZB7.o HIB.o HSB.o HOB.o ?_))
       rw [rounds_succ]
       go_wp2_with (first | ((with_reducible show wpList _ _ _ (qo _ (Op.load 36 _) _ _ _ _ _) _ _); refine lr 36 (w.heap.size + 1) ZB HZ8.o HZI.o ?_) | ((with_reducible show wpList _ _ _ (qo _ (Op.store 36 _ _) _ _ _ _ _) _ _); refine wpList_store_row rfl 36 _ _ rfl (w.heap.size + 1) ZB rfl rfl 36 ZB HZ8.o HZI.o rfl HZO.o ?_))
       refine fin_ctt (w.heap.size + 1) 36 ZB (.int .i64 0) (.int .i64 2) (by rfl) (by rfl) (by rfl) (by rfl) (by rfl) Tryz.underlying36 (by rfl) HZI.o (ArrKit.Bk.row HZ8.o _) ?_
       exact ⟨(congrArg (fun z => Ending.returned (.tuple #[.agg z, .int .i64 0, .int .i64 2])) Z128_cells.symm), HPS.o.keep0 (ArrKit.Fr.row HF8.o _ _ (.inl (by omega))), Fr.weaken (ArrKit.Fr.row HF8.o _ _ (.inl (by omega))) (fun _ _ h => h.elim)⟩
      | true =>
       rw [if_neg (show ¬ true = false by decide)]
       rw [hgb] at HRB
       clear hgb
       obtain ⟨⟨hn, he, D1, M1⟩, hH⟩ : ∃ z, healX d m a (rdG d m a b s b).1 = z := ⟨_, rfl⟩
       rw [hH] at HHE
       rw [hH]
       clear hH
       by_cases he0 : he = 0
       ·rw [if_neg (by show ¬ he ≠ 0; omega)]
        subst he0
        have hl : copL a b = [a, b] := by rw [hcl]; rw [if_neg hb1]
        rw [hl] at HCO HL0
        clear hcl hl
        go_enter Tryz.func9, Tryz.ntmps9
        go_wp2_with (first | (go_at_call 20; (with_reducible refine (HHO.o _ HF1.o).mono ?_); rintro e w2 ⟨rfl, hf2⟩; have HX2 := jq7 (Fr.keep hf2 HX1.o (fun h => h)); have HZ2 := jq7 (Fr.keep hf2 HZ1.o (fun h => h)); have HF2 := jq7 (HF1.o.then0 hf2); clear hf2) | ((with_reducible show wpList _ _ _ (qo _ (Op.load 31 _) _ _ _ _ _) _ _); refine lr 31 w.heap.size X HX1.o HIP.o ?_) | ((with_reducible show wpList _ _ _ (qo _ (Op.load 31 _) _ _ _ _ _) _ _); refine lr 31 w.heap.size X HX2.o HIP.o ?_) | ((with_reducible show wpList _ _ _ (qo _ (Op.load 31 _) _ _ _ _ _) _ _); refine lr 31 w.heap.size X HX3.o HIP.o ?_) | (go_at_call 21; (with_reducible refine (HIH.o _).mono ?_); rintro e w3 ⟨rfl, hf3⟩; have HX3 := jq7 (Fr.keep hf3 HX2.o (fun h => h)); have HZ3 := jq7 (Fr.keep hf3 HZ2.o (fun h => h)); have HF3 := jq7 (HF2.o.then0 hf3); have c33 := HC3.o _ HF3.o; clear hf3) | (go_at_call 22; (with_reducible refine (HCO.o _ hane).mono ?_); rintro e w4 ⟨zb, zk, rfl, hzk, hzc, hf4⟩; have HX4 := jq7 (Fr.keep hf4 HX3.o (fun h => h)); have HZ4 := jq7 (Fr.keep hf4 HZ3.o (fun h => h)); have HF4 := jq7 (HF3.o.then0 hf4); have HZC := jq7 hzc; have z40 := HZC.o w4 (Fr.refl _ _) 0 HL0.o; clear hf4 hzc))
        refine wp_loop_rounds 3 ?_
        rw [rounds_succ]
        go_wp2_with (first | ((with_reducible show wpList _ _ _ (qo _ (Op.load 31 _) _ _ _ _ _) _ _); refine lr 31 w.heap.size X HX4.o HIP.o ?_) | (go_at_call 23; (with_reducible refine (HRA.o _ HF4.o).mono ?_); rintro e w5 ⟨rfl, hf5⟩; have HZB5 := jq7 (Bk.new w5 (.cells ZB 36)); have hfx := Fr.then0 hf5 (show Fr0 w5 ((w5.alloc (.cells ZB 36)).setRow w5.heap.size LA) from ArrKit.Fr.row (Fr.alloc (Fr.refl _ _) _) _ _ (.inl (Nat.le_refl _))); have HX6 := jq7 (Fr.keep hfx HX4.o (fun h => h)); have HZ6 := jq7 (Fr.keep hfx HZ4.o (fun h => h)); have HF6 := jq7 (HF4.o.then0 hfx); have HY6 : Jq7 (Bk ((w5.alloc (.cells ZB 36)).setRow w5.heap.size LA) w5.heap.size LA 36) := jq7 (ArrKit.Bk.row HZB5.o _); have z61 := fun h => HZC.o ((w5.alloc (.cells ZB 36)).setRow w5.heap.size LA) hfx 1 h; clear hf5 hfx) | ((with_reducible show wpList _ _ _ (qo _ (Op.store 36 _ _) _ _ _ _ _) _ _); refine wpList_store_row rfl 36 _ _ rfl w5.heap.size LA rfl rfl 36 ZB HZB5.o HIA.o HSA.o HOA.o ?_))
        have c61 := z61 (by simp)
        rw [rounds_succ]
        go_wp2_with (first | ((with_reducible show wpList _ _ _ (qo _ (Op.load 31 _) _ _ _ _ _) _ _); refine lr 31 w.heap.size X HX6.o HIP.o ?_) | (go_at_call 23; (with_reducible refine (HRB.o _ HF6.o).mono ?_); rintro e w7 ⟨rfl, hf7⟩; have HZB7 := jq7 (Bk.new w7 (.cells ZB 36)); have hfx := Fr.then0 hf7 (show Fr0 w7 ((w7.alloc (.cells ZB 36)).setRow w7.heap.size LBB) from ArrKit.Fr.row (Fr.alloc (Fr.refl _ _) _) _ _ (.inl (Nat.le_refl _))); have HX8 := jq7 (Fr.keep hfx HX6.o (fun h => h)); have HZ8 := jq7 (Fr.keep hfx HZ6.o (fun h => h)); have HF8 := jq7 (HF6.o.then0 hfx); have HY8 : Jq7 (Bk ((w7.alloc (.cells ZB 36)).setRow w7.heap.size LBB) w7.heap.size LBB 36) := jq7 (ArrKit.Bk.row HZB7.o _); have q80 : ((w7.alloc (.cells ZB 36)).setRow w7.heap.size LBB).cell? ⟨w.heap.size, 0, none⟩ = some (.int .i64 a) := (Bk.cell HX8.o 0).trans P0.o; have HG7 : Jq7 ((w.heap.size + 1) < w7.heap.size) := jq7 (Bk.lt (Fr.keep hf7 HZ6.o (fun h => h))); clear hf7 hfx) | ((with_reducible show wpList _ _ _ (qo _ (Op.store 36 _ _) _ _ _ _ _) _ _); refine wpList_store_row rfl 36 _ _ rfl w7.heap.size LBB rfl rfl 36 ZB HZB7.o HIB.o HSB.o HOB.o ?_) | (go_at_call 24; (with_reducible refine (HHE.o _ HF8.o).mono ?_); rintro e w9 ⟨rfl, hp9, hf9⟩; have hpw := HPW.o; have HZ9 := jq7 (Fr.keep hf9 HZ8.o (by omega)); have hgt8 := Bk.lt HZ8.o; have HY9 := jq7 (Fr.keep hf9 HY8.o (by have h1 : (w.heap.size + 1) < w7.heap.size := HG7.o; omega)); have HP9 := jq7 hp9; have HF9 := jq7 ((HF8.o.weaken (fun _ _ h => h.elim)).trans hf9); clear hp9 hf9) | ((with_reducible show wpList _ _ _ (qo _ (Op.load 36 _) _ _ _ _ _) _ _); refine lr 36 w7.heap.size LBB HY8.o HIB.o ?_) | ((with_reducible show wpList _ _ _ (qo _ (Op.load 36 _) _ _ _ _ _) _ _); refine lr 36 w7.heap.size LBB HY9.o HIB.o ?_) | ((with_reducible show wpList _ _ _ (qo _ (Op.store 36 _ _) _ _ _ _ _) _ _); refine wpList_store_row rfl 36 _ _ rfl (w.heap.size + 1) LBB rfl rfl 36 ZB HZ9.o HIB.o HSB.o HOB.o ?_))
        refine fin_ctt (w.heap.size + 1) 36 LBB (.int .i64 hn) (.int .i64 0) (by rfl) (by rfl) (by rfl) (by rfl) (by rfl) Tryz.underlying36 (by rfl) HIB.o (ArrKit.Bk.row HZ9.o _) ?_
        exact ⟨(by rw [← HLB.o]), PS.pastB (l := Z128) HP9.o (by rw [Z128_cells]; exact HZ9.o) (Fr.row1 _ _ _) (by have := HPW.o; omega) (by have := HPW.o; omega), (ArrKit.Fr.row HF9.o _ _ (.inl (by omega)))⟩
       ·rw [if_pos (show he ≠ 0 from he0)]
        have heb : (he != 0) = true := by simpa using he0
        have hl : copL a b = [a, b] := by rw [hcl]; rw [if_neg hb1]
        rw [hl] at HCO HL0
        clear hcl hl
        go_enter Tryz.func9, Tryz.ntmps9
        go_wp2_with (first | (go_at_call 20; (with_reducible refine (HHO.o _ HF1.o).mono ?_); rintro e w2 ⟨rfl, hf2⟩; have HX2 := jq7 (Fr.keep hf2 HX1.o (fun h => h)); have HZ2 := jq7 (Fr.keep hf2 HZ1.o (fun h => h)); have HF2 := jq7 (HF1.o.then0 hf2); clear hf2) | ((with_reducible show wpList _ _ _ (qo _ (Op.load 31 _) _ _ _ _ _) _ _); refine lr 31 w.heap.size X HX1.o HIP.o ?_) | ((with_reducible show wpList _ _ _ (qo _ (Op.load 31 _) _ _ _ _ _) _ _); refine lr 31 w.heap.size X HX2.o HIP.o ?_) | ((with_reducible show wpList _ _ _ (qo _ (Op.load 31 _) _ _ _ _ _) _ _); refine lr 31 w.heap.size X HX3.o HIP.o ?_) | (go_at_call 21; (with_reducible refine (HIH.o _).mono ?_); rintro e w3 ⟨rfl, hf3⟩; have HX3 := jq7 (Fr.keep hf3 HX2.o (fun h => h)); have HZ3 := jq7 (Fr.keep hf3 HZ2.o (fun h => h)); have HF3 := jq7 (HF2.o.then0 hf3); have c33 := HC3.o _ HF3.o; clear hf3) | (go_at_call 22; (with_reducible refine (HCO.o _ hane).mono ?_); rintro e w4 ⟨zb, zk, rfl, hzk, hzc, hf4⟩; have HX4 := jq7 (Fr.keep hf4 HX3.o (fun h => h)); have HZ4 := jq7 (Fr.keep hf4 HZ3.o (fun h => h)); have HF4 := jq7 (HF3.o.then0 hf4); have HZC := jq7 hzc; have z40 := HZC.o w4 (Fr.refl _ _) 0 HL0.o; clear hf4 hzc))
        refine wp_loop_rounds 3 ?_
        rw [rounds_succ]
        go_wp2_with (first | ((with_reducible show wpList _ _ _ (qo _ (Op.load 31 _) _ _ _ _ _) _ _); refine lr 31 w.heap.size X HX4.o HIP.o ?_) | (go_at_call 23; (with_reducible refine (HRA.o _ HF4.o).mono ?_); rintro e w5 ⟨rfl, hf5⟩; have HZB5 := jq7 (Bk.new w5 (.cells ZB 36)); have hfx := Fr.then0 hf5 (show Fr0 w5 ((w5.alloc (.cells ZB 36)).setRow w5.heap.size LA) from ArrKit.Fr.row (Fr.alloc (Fr.refl _ _) _) _ _ (.inl (Nat.le_refl _))); have HX6 := jq7 (Fr.keep hfx HX4.o (fun h => h)); have HZ6 := jq7 (Fr.keep hfx HZ4.o (fun h => h)); have HF6 := jq7 (HF4.o.then0 hfx); have HY6 : Jq7 (Bk ((w5.alloc (.cells ZB 36)).setRow w5.heap.size LA) w5.heap.size LA 36) := jq7 (ArrKit.Bk.row HZB5.o _); have z61 := fun h => HZC.o ((w5.alloc (.cells ZB 36)).setRow w5.heap.size LA) hfx 1 h; clear hf5 hfx) | ((with_reducible show wpList _ _ _ (qo _ (Op.store 36 _ _) _ _ _ _ _) _ _); refine wpList_store_row rfl 36 _ _ rfl w5.heap.size LA rfl rfl 36 ZB HZB5.o HIA.o HSA.o HOA.o ?_))
        have c61 := z61 (by simp)
        rw [rounds_succ]
        go_wp2_with (first | ((with_reducible show wpList _ _ _ (qo _ (Op.load 31 _) _ _ _ _ _) _ _); refine lr 31 w.heap.size X HX6.o HIP.o ?_) | (go_at_call 23; (with_reducible refine (HRB.o _ HF6.o).mono ?_); rintro e w7 ⟨rfl, hf7⟩; have HZB7 := jq7 (Bk.new w7 (.cells ZB 36)); have hfx := Fr.then0 hf7 (show Fr0 w7 ((w7.alloc (.cells ZB 36)).setRow w7.heap.size LBB) from ArrKit.Fr.row (Fr.alloc (Fr.refl _ _) _) _ _ (.inl (Nat.le_refl _))); have HX8 := jq7 (Fr.keep hfx HX6.o (fun h => h)); have HZ8 := jq7 (Fr.keep hfx HZ6.o (fun h => h)); have HF8 := jq7 (HF6.o.then0 hfx); have HY8 : Jq7 (Bk ((w7.alloc (.cells ZB 36)).setRow w7.heap.size LBB) w7.heap.size LBB 36) := jq7 (ArrKit.Bk.row HZB7.o _); have q80 : ((w7.alloc (.cells ZB 36)).setRow w7.heap.size LBB).cell? ⟨w.heap.size, 0, none⟩ = some (.int .i64 a) := (Bk.cell HX8.o 0).trans P0.o; have HG7 : Jq7 ((w.heap.size + 1) < w7.heap.size) := jq7 (Bk.lt (Fr.keep hf7 HZ6.o (fun h => h))); clear hf7 hfx) | ((with_reducible show wpList _ _ _ (qo _ (Op.store 36 _ _) _ _ _ _ _) _ _); refine wpList_store_row rfl 36 _ _ rfl w7.heap.size LBB rfl rfl 36 ZB HZB7.o HIB.o HSB.o HOB.o ?_) | (go_at_call 24; (with_reducible refine (HHE.o _ HF8.o).mono ?_); rintro e w9 ⟨rfl, hp9, hf9⟩; have hpw := HPW.o; have HZ9 := jq7 (Fr.keep hf9 HZ8.o (by omega)); have hgt8 := Bk.lt HZ8.o; have HY9 := jq7 (Fr.keep hf9 HY8.o (by have h1 : (w.heap.size + 1) < w7.heap.size := HG7.o; omega)); have HP9 := jq7 hp9; have HF9 := jq7 ((HF8.o.weaken (fun _ _ h => h.elim)).trans hf9); clear hp9 hf9) | ((with_reducible show wpList _ _ _ (qo _ (Op.load 36 _) _ _ _ _ _) _ _); refine lr 36 w7.heap.size LBB HY8.o HIB.o ?_) | ((with_reducible show wpList _ _ _ (qo _ (Op.build 36 _) _ _ _ _ _) _ _); refine build_ev rfl 36 _ rfl [] (by simp) ZB built_zb ?_) | ((with_reducible show wpList _ _ _ (qo _ (Op.store 36 _ _) _ _ _ _ _) _ _); refine wpList_store_row rfl 36 _ _ rfl (w.heap.size + 1) ZB rfl rfl 36 ZB HZ9.o HZI.o rfl HZO.o ?_))
        refine fin_ctt (w.heap.size + 1) 36 ZB (.int .i64 0) (.int .i64 he) (by rfl) (by rfl) (by rfl) (by rfl) (by rfl) Tryz.underlying36 (by rfl) HZI.o (ArrKit.Bk.row HZ9.o _) ?_
        exact ⟨(congrArg (fun z => Ending.returned (.tuple #[.agg z, .int .i64 0, .int .i64 he])) Z128_cells.symm), PS.pastB (l := Z128) HP9.o (by rw [Z128_cells]; exact HZ9.o) (Fr.row1 _ _ _) (by have := HPW.o; omega) (by have := HPW.o; omega), (ArrKit.Fr.row HF9.o _ _ (.inl (by omega)))⟩

end Go.Proofs.YtmkmpfnadcmcoaaGreatDoor.DitGet
