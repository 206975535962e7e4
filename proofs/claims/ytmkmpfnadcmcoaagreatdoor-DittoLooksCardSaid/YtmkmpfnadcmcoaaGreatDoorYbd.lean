/- The theorems that the claim uses, text behind text (part 30). -/
import Derived.Test.YtmkmpfnadcmcoaaGreatDoorYaa
import Derived.Test.YtmkmpfnadcmcoaaGreatDoorYae
import Derived.Test.YtmkmpfnadcmcoaaGreatDoorYbc
import Derived.Deep.MidRow
set_option maxRecDepth 100000
set_option maxHeartbeats 8000000
set_option linter.unusedVariables false
set_option linter.unusedSimpArgs false
namespace Go.Proofs.YtmkmpfnadcmcoaaGreatDoor.DitGet
open Go Go.RowKit K EqKit ArrKit HeldKit GKit GRow DiskKit RmKit MapKit ShaStep RmRight RmRRight RmTab RmPut RmAsk RmSame DiskRRead RmRead RmReads DiskAct RmSpare RmKeep RmAliveP RmWrX RmWrite RmPair RowG PtrKit DitKit DitAsk DitHome
theorem results_ctt {P : Program} {fn : Func} {p u v : Tmp} {ty : TypeId} (h : fn.results = #[.cell p ty, .tmp u, .tmp v]) (tmps : Array Value) (w : World) (g : Nat) (t : TypeId) (cs : Array Value) (fr : Nat × Nat) (d : TypeDesc)
  (hp : tmps.getD p undef = .pointer (some ⟨g, 0, none⟩)) (hg : w.heap[g]? = some (.cells cs t fr))
  (hu : P.underlying ty = some d) (hd : (match d with | .struct _ | .array _ _ => true | _ => false) = true) (hi : (P.info? ty).map (·.size) = some cs.size) :
  (results fn tmps).run P w = .ok (.tuple #[.agg cs, tmps.getD u undef, tmps.getD v undef]) w := by
 have hp' : tmps[p]?.getD undef = .pointer (some ⟨g, 0, none⟩) := by simpa using hp
 simp [results, h, hp', asAddr, run_loadVar_row w g t ty cs fr d hg hu hd hi]
theorem fin_ctt {P : Program} {fn : Func} {R : Ending → World → Prop} {a : Act} {w : World} {p u v : Tmp} {ty : TypeId} (g : Nat) (t : TypeId) (cs : Array Value) (x y : Value) {d : TypeDesc}
  (h : fn.results = #[.cell p ty, .tmp u, .tmp v]) (hp : a.tmps.getD p undef = .pointer (some ⟨g, 0, none⟩)) (hx : a.tmps.getD u undef = x) (hy : a.tmps.getD v undef = y) (hds : a.defers = [])
  (hu : P.underlying ty = some d) (hd : (match d with | .struct _ | .array _ _ => true | _ => false) = true) (hi : (P.info? ty).map (·.size) = some cs.size)
  (hg : w.heap[g]? = some (.cells cs t (0, 0))) (hR : R (.returned (.tuple #[.agg cs, x, y])) w) : bodyPost P fn R .ret a w := by
 subst hx hy
 exact bodyPost_ret (results_ctt h _ _ g t cs (0, 0) d hp hg hu hd hi) hds hR
theorem row_at {w : World} {base : Nat} {v : Value} {l : List Int} (h : Row FI 1 3 w base v l) (hl : 0 < l.length) : ∃ zb k, v = .slice (some ⟨zb, 0, none⟩) l.length k ∧ l.length ≤ k ∧ ∀ W, Fr0 w W → ∀ j (hj : j < l.length), W.cell? ⟨zb, j, none⟩ = some (.int .i64 l[j]) := by
 obtain ⟨z, k, hv, hle, -, hrd, -, hz⟩ := h.form
 obtain ⟨zb, zo, rfl, -, -⟩ := RdG.form hrd hl (fun _ => by simp [FI])
 have e := (hz _ rfl).2
 have e0 : zo = 0 := by injection e
 subst e0
 refine ⟨zb, k, hv, hle, fun W f j hj => ?_⟩
 have := RdG.at (RdG.keep hrd f) hj 0 (.int .i64 l[j]) rfl
 rwa [Nat.zero_add, Nat.mul_one, Nat.add_zero] at this
theorem cell_byte {w : World} {g k t : Nat} {l : List UInt8} {v : Value} (hb : Bk w g (l.map B).toArray t) (h : w.cell? ⟨g, k, none⟩ = some v) : ∃ x : UInt8, v = B x := by
 rw [Bk.cell hb, List.getElem?_toArray, List.getElem?_map] at h
 cases hx : l[k]? with
 | none => rw [hx] at h;cases h
 | some y => rw [hx] at h;exact ⟨y, (Option.some.inj h).symm⟩
theorem PS.pastB {w w1 : World} {p r g t : Nat} {d : Dk} {m : Rm} {l : List UInt8} (h : PS w p r d m) (hb : Bk w g (l.map B).toArray t) (f : Fr (fun i => i = g) w w1) (hp : p ≠ g) (hr : r ≠ g) : PS w1 p r d m := by
 obtain ⟨⟨sa, sc, ca, cc, h1⟩, a, c, h2, h3⟩ := h
 have hS : RdS w1 sa d.S := RdG.later h1.v.rs f (fun x e hl => by
  subst e
  rintro rfl
  obtain ⟨b, o, e0, -, hat⟩ := RdG.form h1.v.rs (List.length_pos_iff.2 hl) Sec.pos
  cases e0
  have hc := hat 0 (List.length_pos_iff.2 hl) (d.S[0]'(List.length_pos_iff.2 hl)).data.length (.bool (d.S[0]'(List.length_pos_iff.2 hl)).nr) (by
   rw [Sec.cells, List.getElem?_append_right (by simp)];simp)
  obtain ⟨y, hy⟩ := cell_byte hb hc
  rw [B_def] at hy
  cases hy)
 have hC : RdC w1 ca d.C := RdG.later h1.v.rc f (fun x e hl => by
  subst e
  rintro rfl
  obtain ⟨b, o, e0, -, hat⟩ := RdG.form h1.v.rc (List.length_pos_iff.2 hl) Wri.ps
  cases e0
  have hc := hat 0 (List.length_pos_iff.2 hl) 0 (.int .i64 (d.C[0]'(List.length_pos_iff.2 hl)).pos) rfl
  obtain ⟨y, hy⟩ := cell_byte hb hc
  rw [B_def] at hy
  cases hy)
 have hP : RdP w1 a m.ps := RdG.later h3.rd f (fun x e hl => by
  subst e
  rintro rfl
  obtain ⟨b, o, e0, -, hat⟩ := RdG.form h3.rd (List.length_pos_iff.2 hl) (fun _ => by simp [PR])
  cases e0
  have hc := hat 0 (List.length_pos_iff.2 hl) 0 (.int .i64 (m.ps[0]'(List.length_pos_iff.2 hl)).1) rfl
  obtain ⟨y, hy⟩ := cell_byte hb hc
  rw [B_def] at hy
  cases hy)
 exact ⟨⟨sa, sc, ca, cc, f.keep h1.blk hp, ⟨hS, hC, h1.v.sn, h1.v.sm, h1.v.cn, h1.v.cm⟩⟩, a, c, f.keep h2 hr, ⟨hP, h3.len, h3.max⟩⟩
theorem built_zb : Tryz.prog.built 36 [] = some ZB := by kernel_rfl
theorem Z128_cells : (Z128.map B).toArray = ZB := by kernel_rfl

end Go.Proofs.YtmkmpfnadcmcoaaGreatDoor.DitGet
namespace Go.Proofs.YtmkmpfnadcmcoaaGreatDoor.DitPut
open Go Go.RowKit K EqKit ArrKit HeldKit GKit GRow DiskKit RmKit MapKit ShaStep ShaRef ShaSum ShaRSum RmRight RmRRight RmTab RmPut RmAsk RmSame DiskRRead RmRead RmReads DiskAct RmSpare RmKeep RmAliveP RmWrX RmWrite RmPair RowG PtrKit DitKit DitAsk DitHome DitGet
theorem row_at2 {w : World} {base : Nat} {v : Value} {l : List Int} (h : Row FI 1 3 w base v l) (hl : 0 < l.length) : ∃ zb k, v = .slice (some ⟨zb, 0, none⟩) l.length k ∧ l.length ≤ k ∧ base ≤ zb ∧ zb < w.heap.size ∧ ∀ j (hj : j < l.length), w.cell? ⟨zb, j, none⟩ = some (.int .i64 l[j]) := by
 obtain ⟨z, k, hv, hle, -, hrd, -, hz⟩ := h.form
 obtain ⟨zb, zo, rfl, -, -⟩ := RdG.form hrd hl (fun _ => by simp [FI])
 have e := (hz _ rfl).2
 have e0 : zo = 0 := by injection e
 subst e0
 have hb := h.blk _ (hz _ rfl).1
 refine ⟨zb, k, hv, hle, hb.1, hb.2, fun j hj => ?_⟩
 have := RdG.at hrd hj 0 (.int .i64 l[j]) rfl
 rwa [Nat.zero_add, Nat.mul_one, Nat.add_zero] at this
theorem PS.pastP {w w1 : World} {p r g t : Nat} {d : Dk} {m : Rm} {cs : Array Value} (h : PS w p r d m) (hok : d.ok) (hm : m.ps = []) (hb : Bk w g cs t) (hc : cs.size = 34) (f : Fr (fun i => i = g) w w1) (hp : p ≠ g) (hr : r ≠ g) : PS w1 p r d m := by
 obtain ⟨⟨sa, sc, ca, cc, h1⟩, a, c, h2, h3⟩ := h
 have big : ∀ k v, w.cell? ⟨g, k, none⟩ = some v → k < 34 := fun k v hk => by
  rw [Bk.cell hb] at hk
  rcases Nat.lt_or_ge k 34 with h | h
  ·exact h
  ·rw [Array.getElem?_eq_none (by omega)] at hk;cases hk
 have hS : RdS w1 sa d.S := RdG.later h1.v.rs f (fun x e hl => by
  subst e
  rintro rfl
  have h0 := List.length_pos_iff.2 hl
  obtain ⟨b, o, e0, -, hat⟩ := RdG.form h1.v.rs h0 Sec.pos
  cases e0
  have := big _ _ (hat 0 h0 128 _ (Sec.nr_at (hok.s _ (List.getElem_mem h0))))
  omega)
 have hC : RdC w1 ca d.C := RdG.later h1.v.rc f (fun x e hl => by
  subst e
  rintro rfl
  have h0 := List.length_pos_iff.2 hl
  obtain ⟨b, o, e0, -, hat⟩ := RdG.form h1.v.rc h0 Wri.ps
  cases e0
  have hlen := Wri.leng (hok.c _ (List.getElem_mem h0))
  obtain ⟨v, hv⟩ : ∃ v, (Wri.cells (d.C[0]'h0))[128]? = some v := ⟨_, List.getElem?_eq_getElem (by omega)⟩
  have := big _ _ (hat 0 h0 128 _ hv)
  omega)
 exact ⟨⟨sa, sc, ca, cc, f.keep h1.blk hp, ⟨hS, hC, h1.v.sn, h1.v.sm, h1.v.cn, h1.v.cm⟩⟩, a, c, f.keep h2 hr, ⟨RdG.later h3.rd f (fun x e hl => absurd hm hl), h3.len, h3.max⟩⟩

theorem put_calls (p r : Nat) (d D1 D2 : Dk) (m : Rm) (bl : List UInt8) (a c : Int) (w : World) (hok : d.ok) (hm : m.ok) (hmp : m.ps = []) (hps : PS w p r d m) (hrp : r ≠ p) (hsh : Sh w) (hbl : bl.length = 128) (ha : (Lit.int .i64 a).wf = true) (hc : (Lit.int .i64 c).wf = true) (hC : d.C.length ≤ 800) (hof : PtrOf.okB a c = true) (hho : homeB d m a c (sumOf bl) = true) (hane : a ≠ -1)
  (h1 : wrX d m a bl = (0, D1, m)) (h2 : c = -1 ∧ D2 = D1 ∨ c ≠ -1 ∧ wrX D1 m c bl = (0, D2, m)) : Calls Tryz.prog 17 #[.pointer (some ⟨p, 0, none⟩), .pointer (some ⟨r, 0, none⟩), .agg (bl.map B).toArray, .int .i64 a, .int .i64 c] w fun e w' => e = .returned (.tuple #[.agg (PC a c (sumOf bl)).toArray, .int .i64 0]) ∧ PS w' p r D2 m ∧ Fr (fun i => i = p ∨ i = r) w w' := by
 have hsl : (sumOf bl).length = 32 := sumOf_length bl
 have HOF : Jq7 (∀ W, Fr0 w W → Calls Tryz.prog 30 #[.agg (bl.map B).toArray, .int .i64 a, .int .i64 c] W fun e w' => e = .returned (.tuple #[.agg (PC a c (sumOf bl)).toArray, .int .i64 0]) ∧ Fr0 W w') := jq7 (fun W f => by
  obtain ⟨⟨tk, hK⟩, ⟨tb, hB⟩⟩ := hsh.keep0 f
  have := PtrOf.of_calls bl hbl a c W ha hc hK hB
  unfold PtrOf.ofP PtrOf.ofE at this
  rw [hof] at this
  exact this)
 have HHO : Jq7 (∀ W, Fr0 w W → Calls Tryz.prog 20 #[.pointer (some ⟨p, 0, none⟩), .pointer (some ⟨r, 0, none⟩), .agg (PC a c (sumOf bl)).toArray] W fun e w' => e = .returned (.bool true) ∧ Fr0 W w') := jq7 (fun W f => by have := home_calls p r d m a c (sumOf bl) W hok hm (hps.keep0 f) hsl ha hc;rwa [hho] at this)
 have HCO : Jq7 (∀ W, Calls Tryz.prog 22 #[.agg (PC a c (sumOf bl)).toArray] W fun e w' => ∃ zb k, e = .returned (.slice (some ⟨zb, 0, none⟩) (copL a c).length k) ∧ W.heap.size ≤ zb ∧ zb < w'.heap.size ∧ (∀ j (hj : j < (copL a c).length), w'.cell? ⟨zb, j, none⟩ = some (.int .i64 (copL a c)[j])) ∧ (copL a c).length ≤ k ∧ Fr0 W w') := jq7 (fun W => (copies_calls a c (sumOf bl) W hane).mono (by
  rintro e w' ⟨v, rfl, hrow, hf⟩
  obtain ⟨zb, k, hv, hle, hb1, hb2, hcl⟩ := row_at2 hrow (by unfold copL;split <;> simp)
  exact ⟨zb, k, by rw [hv], hb1, hb2, hcl, hle, hf⟩))
 have ho1 := wrX_ok hok hm ha hbl
 have hc1 := wrX_C hok hm ha hbl
 rw [h1] at ho1 hc1
 have hc1' : D1.C.length ≤ d.C.length + 23 := hc1
 have HW : Jq7 (∀ (D D' : Dk) (q : Int) W, D.ok → D.C.length ≤ 900 → (Lit.int .i64 q).wf = true → wrX D m q bl = (0, D', m) → Sh W → PS W p r D m → Calls Tryz.prog 31 #[.pointer (some ⟨p, 0, none⟩), .pointer (some ⟨r, 0, none⟩), .int .i64 q, .agg (bl.map B).toArray] W fun e w' => e = .returned (.int .i64 0) ∧ PS w' p r D' m ∧ Fr (fun i => i = p ∨ i = r) W w') := jq7 (fun D D' q W hD hDC hq hx hs h => by
  obtain ⟨⟨sa, sc, ca, cc, g1⟩, ra, rc, g2, g3⟩ := h
  have := write_calls p r D sa sc ca cc m ra rc bl q W hD g1 hm g3 hbl g2 hrp hs hq hDC
  rw [hx] at this
  exact this.mono (fun e w' h => ⟨h.1, ⟨h.2.1, h.2.2.1⟩, h.2.2.2⟩))
 have HW1 := jq7 (fun W => HW.o d D1 a W hok (by omega) ha h1)
 have HO1 : Jq7 (D1.ok) := jq7 ho1.1
 have HW2 : Jq7 (c ≠ -1 → D2.ok ∧ ∀ W, Sh W → PS W p r D1 m → Calls Tryz.prog 31 #[.pointer (some ⟨p, 0, none⟩), .pointer (some ⟨r, 0, none⟩), .int .i64 c, .agg (bl.map B).toArray] W fun e w' => e = .returned (.int .i64 0) ∧ PS w' p r D2 m ∧ Fr (fun i => i = p ∨ i = r) W w') := jq7 (fun hne => by
  rcases h2 with ⟨e, -⟩ | ⟨-, hx⟩
  ·exact absurd e hne
  ·have ho2 := wrX_ok (n := c) ho1.1 hm hc hbl
   rw [hx] at ho2
   exact ⟨ho2.1, fun W => HW.o D1 D2 c W ho1.1 (by omega) hc hx⟩)
 have HMP := jq7 hmp
 have HSH := jq7 hsh
 have HPS := jq7 hps
 have HPW : Jq7 (p < w.heap.size ∧ r < w.heap.size) := jq7 (by
  obtain ⟨⟨sa, sc, ca, cc, hv⟩, ra, rc, hb1, -⟩ := hps
  exact ⟨Bk.lt hv.blk, Bk.lt hb1⟩)
 have HN01 : Jq7 (p ≠ 1 ∧ p ≠ 0 ∧ r ≠ 1 ∧ r ≠ 0) := jq7 (by
  obtain ⟨⟨sa, sc, ca, cc, hv⟩, ra, rc, hb1, -⟩ := hps
  have e1 := hsh.ne hv.blk (by show (4 : Nat) ≠ 8;decide) (by show (4 : Nat) ≠ 64;decide)
  have e2 := hsh.ne hb1 (by show (2 : Nat) ≠ 8;decide) (by show (2 : Nat) ≠ 64;decide)
  exact ⟨e1.1, e1.2, e2.1, e2.2⟩)
 have HIP := jq7 (info_ptr a c hsl)
 have HSP : Jq7 (PtrAsk.ZERO.size = (PC a c (sumOf bl)).toArray.size) := jq7 (by
  have h : (PC a c (sumOf bl)).toArray.size = 34 := by rw [List.size_toArray, PC_length, hsl]
  rw [h];rfl)
 have HS34 : Jq7 (PtrAsk.ZERO.size = 34) := jq7 (by rfl)
 have HOP : Jq7 ((PC a c (sumOf bl)).toArray.all (·.oneCell') = true) := jq7 (by
  rw [List.all_toArray]
  simp [PC, Value.oneCell', B_def])
 have HIB := jq7 (info_l hbl)
 have hzp : ∀ W, (zeroValue 31).run Tryz.prog W = .ok (.agg PtrAsk.ZERO) W := by intro W;kernel_rfl
 have hcl : copL a c = if c = -1 then [a] else [a, c] := rfl
 have hD2 : c = -1 → D2 = D1 := fun e => by rcases h2 with ⟨-, h⟩ | ⟨h, -⟩;exact h;exact absurd e h
 clear hok hm hmp hps hrp hsh hbl ha hc hC hof hho hane h1 h2 ho1 hc1 hc1' hsl HW
 generalize (PC a c (sumOf bl)).toArray = PX at *
 generalize (bl.map B).toArray = LB at *
 have HB2 : Jq7 (Bk ((w.alloc (.cells LB 36)).alloc (.cells PtrAsk.ZERO 31)) w.heap.size LB 36) := jq7 (Bk.alloc (Bk.new w _) _)
 have HZ2 : Jq7 (Bk ((w.alloc (.cells LB 36)).alloc (.cells PtrAsk.ZERO 31)) (w.heap.size + 1) PtrAsk.ZERO 31) := jq7 (by have := Bk.new (w.alloc (.cells LB 36)) (.cells PtrAsk.ZERO 31);rwa [show (w.alloc (.cells LB 36)).heap.size = w.heap.size + 1 by simp] at this)
 have HF2 : Jq7 (Fr0 w ((w.alloc (.cells LB 36)).alloc (.cells PtrAsk.ZERO 31))) := jq7 (Fr.alloc (Fr.alloc (Fr.refl _ _) _) _)
 by_cases hb1 : c = -1
 ·have hl : copL a c = [a] := by rw [hcl, if_pos hb1]
  rw [hl] at HCO
  have e2 := hD2 hb1
  subst e2
  clear hcl hl hD2 HW2 hb1
  go_enter Tryz.func17, Tryz.ntmps17
  go_wp2_with (first | ((with_reducible show wkq (.load 36 _) _);refine lr 36 w.heap.size LB HB2.o HIB.o ?_) | (go_at_call 30;(with_reducible refine (HOF.o _ HF2.o).mono ?_);rintro e w3 ⟨rfl, hf3⟩;have HQ3 := jq7 (Bk.new w3 (.cells PtrAsk.ZERO 31));have hfx := Fr.then0 hf3 (show Fr0 w3 ((w3.alloc (.cells PtrAsk.ZERO 31)).setRow w3.heap.size PX) from ArrKit.Fr.row (Fr.alloc (Fr.refl _ _) _) _ _ (.inl (Nat.le_refl _)));have HB4 := kq0 hfx HB2;have HZ4 := kq0 hfx HZ2;have HF4 := fq0 HF2 hfx;have HY4 : Jq7 (Bk ((w3.alloc (.cells PtrAsk.ZERO 31)).setRow w3.heap.size PX) w3.heap.size PX 31) := jq7 (ArrKit.Bk.row HQ3.o _);have HG3 : Jq7 ((w.heap.size + 1) < w3.heap.size) := jq7 (Bk.lt (Fr.keep hf3 HZ2.o (fun h => h)));clear hf3 hfx) | ((with_reducible show wkq (.store 31 _ _) _);refine wpList_store_row rfl 31 _ _ rfl w3.heap.size PX rfl rfl 31 PtrAsk.ZERO HQ3.o HIP.o HSP.o HOP.o ?_) | ((with_reducible show wkq (.load 31 _) _);refine lr 31 w3.heap.size PX HY4.o HIP.o ?_) | (go_at_call 20;(with_reducible refine (HHO.o _ HF4.o).mono ?_);rintro e w5 ⟨rfl, hf5⟩;have HB5 := kq0 hf5 HB4;have HZ5 := kq0 hf5 HZ4;have HY5 := kq0 hf5 HY4;have HF5 := fq0 HF4 hf5;clear hf5) | ((with_reducible show wkq (.load 31 _) _);refine lr 31 w3.heap.size PX HY5.o HIP.o ?_) | (go_at_call 22;(with_reducible refine (HCO.o _).mono ?_);rintro e w6 ⟨zb, zk, rfl, hz1, hz2, hzc, hzk, hf6⟩;have HB6 := kq0 hf6 HB5;have HZ6 := kq0 hf6 HZ5;have HY6 := kq0 hf6 HY5;have HF6 := fq0 HF5 hf6;have HZB : Jq7 (w.heap.size ≤ zb ∧ zb < w6.heap.size) := jq7 ⟨Nat.le_trans HF5.o.size hz1, hz2⟩;have z60 := hzc 0 (by simp);have HZC := jq7 hzc;clear hz1 hz2 hzc hf6))
  have HS6 := jq7 (HSH.o.keep0 HF6.o)
  refine wp_loop_rounds 3 ?_
  rw [rounds_succ]
  go_wp2_with (first | ((with_reducible show wkq (.load 36 _) _);refine lr 36 w.heap.size LB HB6.o HIB.o ?_) | (go_at_call 31;(with_reducible refine (HW1.o _ HS6.o (HPS.o.keep0 HF6.o)).mono ?_);rintro e w7 ⟨rfl, hp7, hf7⟩;have hpw := HPW.o;have hg3 := HG3.o;have HB7 := jq7 (Fr.keep hf7 HB6.o (by omega));have HZ7 := jq7 (Fr.keep hf7 HZ6.o (by omega));have HY7 := jq7 (Fr.keep hf7 HY6.o (by omega));have HP7 := jq7 hp7;have HF7 := jq7 ((HF6.o.weaken (fun _ _ h => h.elim)).trans hf7);have hn01 := HN01.o;have HS7 := jq7 (HS6.o.keep hf7 (by omega) (by omega));have hzb := HZB.o;have z71 := fun h => (hf7.cell zb 1 hzb.2 (by omega)).trans (HZC.o 1 h);clear hp7 hf7))
  rw [rounds_succ]
  go_wp2_with (first | ((with_reducible show wkq (.load 31 _) _);refine lr 31 w3.heap.size PX HY7.o HIP.o ?_) | ((with_reducible show wkq (.store 31 _ _) _);refine wpList_store_row rfl 31 _ _ rfl (w.heap.size + 1) PX rfl rfl 31 PtrAsk.ZERO HZ7.o HIP.o HSP.o HOP.o ?_))
  have hpw := HPW.o
  refine fin_ct (w.heap.size + 1) 31 PX (.int .i64 0) (by rfl) (by rfl) (by rfl) (by rfl) Tryz.underlying31 (by rfl) HIP.o (ArrKit.Bk.row HZ7.o _) ?_
  exact ⟨rfl, PS.pastP HP7.o HO1.o HMP.o HZ7.o HS34.o (Fr.row1 _ _ _) (by omega) (by omega), ArrKit.Fr.row HF7.o (w.heap.size + 1) _ (.inl (by omega))⟩
 ·have hl : copL a c = [a, c] := by rw [hcl, if_neg hb1]
  rw [hl] at HCO
  obtain ⟨ho2, hw2⟩ := HW2.o hb1
  have HO2 := jq7 ho2
  have HW3 := jq7 hw2
  clear hcl hl hD2 HW2 hb1 ho2 hw2
  go_enter Tryz.func17, Tryz.ntmps17
  go_wp2_with (first | ((with_reducible show wkq (.load 36 _) _);refine lr 36 w.heap.size LB HB2.o HIB.o ?_) | (go_at_call 30;(with_reducible refine (HOF.o _ HF2.o).mono ?_);rintro e w3 ⟨rfl, hf3⟩;have HQ3 := jq7 (Bk.new w3 (.cells PtrAsk.ZERO 31));have hfx := Fr.then0 hf3 (show Fr0 w3 ((w3.alloc (.cells PtrAsk.ZERO 31)).setRow w3.heap.size PX) from ArrKit.Fr.row (Fr.alloc (Fr.refl _ _) _) _ _ (.inl (Nat.le_refl _)));have HB4 := kq0 hfx HB2;have HZ4 := kq0 hfx HZ2;have HF4 := fq0 HF2 hfx;have HY4 : Jq7 (Bk ((w3.alloc (.cells PtrAsk.ZERO 31)).setRow w3.heap.size PX) w3.heap.size PX 31) := jq7 (ArrKit.Bk.row HQ3.o _);have HG3 : Jq7 ((w.heap.size + 1) < w3.heap.size) := jq7 (Bk.lt (Fr.keep hf3 HZ2.o (fun h => h)));clear hf3 hfx) | ((with_reducible show wkq (.store 31 _ _) _);refine wpList_store_row rfl 31 _ _ rfl w3.heap.size PX rfl rfl 31 PtrAsk.ZERO HQ3.o HIP.o HSP.o HOP.o ?_) | ((with_reducible show wkq (.load 31 _) _);refine lr 31 w3.heap.size PX HY4.o HIP.o ?_) | (go_at_call 20;(with_reducible refine (HHO.o _ HF4.o).mono ?_);rintro e w5 ⟨rfl, hf5⟩;have HB5 := kq0 hf5 HB4;have HZ5 := kq0 hf5 HZ4;have HY5 := kq0 hf5 HY4;have HF5 := fq0 HF4 hf5;clear hf5) | ((with_reducible show wkq (.load 31 _) _);refine lr 31 w3.heap.size PX HY5.o HIP.o ?_) | (go_at_call 22;(with_reducible refine (HCO.o _).mono ?_);rintro e w6 ⟨zb, zk, rfl, hz1, hz2, hzc, hzk, hf6⟩;have HB6 := kq0 hf6 HB5;have HZ6 := kq0 hf6 HZ5;have HY6 := kq0 hf6 HY5;have HF6 := fq0 HF5 hf6;have HZB : Jq7 (w.heap.size ≤ zb ∧ zb < w6.heap.size) := jq7 ⟨Nat.le_trans HF5.o.size hz1, hz2⟩;have z60 := hzc 0 (by simp);have HZC := jq7 hzc;clear hz1 hz2 hzc hf6))
  have HS6 := jq7 (HSH.o.keep0 HF6.o)
  refine wp_loop_rounds 3 ?_
  rw [rounds_succ]
  go_wp2_with (first | ((with_reducible show wkq (.load 36 _) _);refine lr 36 w.heap.size LB HB6.o HIB.o ?_) | (go_at_call 31;(with_reducible refine (HW1.o _ HS6.o (HPS.o.keep0 HF6.o)).mono ?_);rintro e w7 ⟨rfl, hp7, hf7⟩;have hpw := HPW.o;have hg3 := HG3.o;have HB7 := jq7 (Fr.keep hf7 HB6.o (by omega));have HZ7 := jq7 (Fr.keep hf7 HZ6.o (by omega));have HY7 := jq7 (Fr.keep hf7 HY6.o (by omega));have HP7 := jq7 hp7;have HF7 := jq7 ((HF6.o.weaken (fun _ _ h => h.elim)).trans hf7);have hn01 := HN01.o;have HS7 := jq7 (HS6.o.keep hf7 (by omega) (by omega));have hzb := HZB.o;have z71 := fun h => (hf7.cell zb 1 hzb.2 (by omega)).trans (HZC.o 1 h);clear hp7 hf7))
  have c71 := z71 (by simp)
  rw [rounds_succ]
  go_wp2_with (first | ((with_reducible show wkq (.load 36 _) _);refine lr 36 w.heap.size LB HB7.o HIB.o ?_) | (go_at_call 31;(with_reducible refine (HW3.o _ HS7.o HP7.o).mono ?_);rintro e w8 ⟨rfl, hp8, hf8⟩;have hpw := HPW.o;have hg3 := HG3.o;have HB8 := jq7 (Fr.keep hf8 HB7.o (by omega));have HZ8 := jq7 (Fr.keep hf8 HZ7.o (by omega));have HY8 := jq7 (Fr.keep hf8 HY7.o (by omega));have HP8 := jq7 hp8;have HF8 := jq7 (HF7.o.trans hf8);have hn01 := HN01.o;have HS8 := jq7 (HS7.o.keep hf8 (by omega) (by omega));clear hp8 hf8))
  rw [rounds_succ]
  go_wp2_with (first | ((with_reducible show wkq (.load 31 _) _);refine lr 31 w3.heap.size PX HY8.o HIP.o ?_) | ((with_reducible show wkq (.store 31 _ _) _);refine wpList_store_row rfl 31 _ _ rfl (w.heap.size + 1) PX rfl rfl 31 PtrAsk.ZERO HZ8.o HIP.o HSP.o HOP.o ?_))
  have hpw := HPW.o
  refine fin_ct (w.heap.size + 1) 31 PX (.int .i64 0) (by rfl) (by rfl) (by rfl) (by rfl) Tryz.underlying31 (by rfl) HIP.o (ArrKit.Bk.row HZ8.o _) ?_
  exact ⟨rfl, PS.pastP HP8.o HO2.o HMP.o HZ8.o HS34.o (Fr.row1 _ _ _) (by omega) (by omega), ArrKit.Fr.row HF8.o (w.heap.size + 1) _ (.inl (by omega))⟩

end Go.Proofs.YtmkmpfnadcmcoaaGreatDoor.DitPut
namespace Go.Proofs.YtmkmpfnadcmcoaaGreatDoor.WKit
open Go Go.RowKit K ArrKit HeldKit GKit GRow
theorem wpList_run_g {P : Program} {ops : Array Oper} {rest : List Oper} {o : Oper} {a : Act} {w : World} {Q : Exit → Act → World → Prop} (hw : Region.wanted o (yielded ops a.tmps) = true) (v : Value) (w' : World) (hrun : (execOp a.eval o).run P w = .ok (.value v) w')
  (h : wpList P ops Q rest (a.put o.dst v) w') : wpList P ops Q (o :: rest) a w := by
 unfold wpList
 rw [if_pos hw]
 refine Or.inl ?_
 unfold Oper.wp
 rw [hrun, Oper.upon_value]
 exact h
theorem wpList_alloc_w {P : Program} {ops : Array Oper} {rest : List Oper} {o : Oper} {a : Act} {w : World} {Q : Exit → Act → World → Prop} (hg : o.guard = none) (t : TypeId) (ho : o.op = .alloc t) (z : Value) (hz : ∀ W, (zeroValue t).run P W = .ok z W)
  (h : ∀ g W, Bk W g z.cells t → Fr0 w W → w.heap.size ≤ g → g < W.heap.size → wpList P ops Q rest (a.put o.dst (.pointer (some ⟨g, 0, none⟩))) W) : wpList P ops Q (o :: rest) a w := by
 refine wpList_plain hg fun K hK => ?_
 unfold Oper.wp execOp
 simp only [ho, Sem.run_bind, Instr.alloc, newVar, newRow, hz, run_newObj_alloc, Sem.run_pure, Result.andThen_ok]
 exact hK _ _ (h _ _ (Bk.new w _) (Fr.alloc (Fr.refl _ _) _) (Nat.le_refl _) (Bk.lt (Bk.new w _)))
theorem wpList_box_w {P : Program} {ops : Array Oper} {rest : List Oper} {o : Oper} {a : Act} {w : World} {Q : Exit → Act → World → Prop} (hg : o.guard = none) (t : TypeId) (x : Operand) (ho : o.op = .box t x) (v : Value) (hx : a.eval x = v)
  (h : ∀ g W, Bk W g v.cells t → Fr0 w W → w.heap.size ≤ g → g < W.heap.size → wpList P ops Q rest (a.put o.dst (.pointer (some ⟨g, 0, none⟩))) W) : wpList P ops Q (o :: rest) a w := by
 subst hx
 refine wpList_plain hg fun K hK => ?_
 unfold Oper.wp execOp
 simp only [ho, Sem.run_bind, Instr.box, newVar, newRow, run_newObj_alloc, Sem.run_pure, Result.andThen_ok]
 exact hK _ _ (h _ _ (Bk.new w _) (Fr.alloc (Fr.refl _ _) _) (Nat.le_refl _) (Bk.lt (Bk.new w _)))
theorem wpList_store_row_w {P : Program} {ops : Array Oper} {rest : List Oper} {o : Oper} {a : Act} {w : World} {Q : Exit → Act → World → Prop} (hgd : o.guard = none) (ty : TypeId) (x y : Operand) (ho : o.op = .store ty x y)
  (g : Nat) (cells : Array Value) (hx : a.eval x = .pointer (some ⟨g, 0, none⟩)) (hy : a.eval y = .agg cells)
  (t : TypeId) (old : Array Value) (hg : Bk w g old t) (hi : (P.info? ty).map (·.size) = some cells.size)
  (hold : old.size = cells.size) (h1 : cells.all (·.oneCell') = true)
  (h : ∀ W, Bk W g cells t → Fr (fun i => i = g) w W → W.heap.size = w.heap.size → wpList P ops Q rest (a.put o.dst undef) W) : wpList P ops Q (o :: rest) a w :=
 wpList_store_row hgd ty x y ho g cells hx hy t old hg hi hold h1 (h _ (ArrKit.Bk.row hg _) (GKit.Fr.row1 _ _ _) (by simp [World.setRow]))
theorem run_store_cell {P : Program} {w : World} {g i : Nat} {t ty : TypeId} {cs : Array Value} {v : Value} (hb : Bk w g cs t) (hi : i < cs.size) (h1 : v.oneCell' = true) (hs : (P.info? ty).map (·.size) = some 1) :
  (Instr.storeAt ty (.pointer (some ⟨g, i, none⟩)) v).run P w = .ok () (w.setCell ⟨g, i, none⟩ v) := by
 have hc : v.cells = #[v] := by cases v <;> first | rfl | cases h1
 have := run_storeAt_mid (P := P) w g i ty #[v] (GKit.there_bk hb i 1 (by omega)) (by simpa using hs) (by simp [h1])
 unfold Instr.storeAt Instr.sureAddr at this ⊢
 simp only [Sem.run_bind, Sem.run_pure, Result.andThen_ok] at this ⊢
 unfold storeVar at this ⊢
 have hc2 : (Value.agg #[v]).cells = #[v] := rfl
 rw [hc2] at this
 rw [hc]
 exact this
theorem wpList_store_cell_w {P : Program} {ops : Array Oper} {rest : List Oper} {o : Oper} {a : Act} {w : World} {Q : Exit → Act → World → Prop} (hgd : o.guard = none) (ty : TypeId) (x y : Operand) (ho : o.op = .store ty x y)
  (g i : Nat) (v : Value) (hx : a.eval x = .pointer (some ⟨g, i, none⟩)) (hy : a.eval y = v)
  (t : TypeId) (cs cs' : Array Value) (hg : Bk w g cs t) (hi : i < cs.size) (hs : (P.info? ty).map (·.size) = some 1) (h1 : v.oneCell' = true) (hcs : cs.setIfInBounds i v = cs')
  (h : ∀ W, Bk W g cs' t → Fr (fun j => j = g) w W → W.heap.size = w.heap.size → wpList P ops Q rest (a.put o.dst undef) W) : wpList P ops Q (o :: rest) a w :=
 wpList_plain hgd fun K hK => by
  subst hcs
  unfold Oper.wp execOp
  simp only [ho, hx, hy, Sem.run_bind, Sem.run_pure, Result.andThen_ok, run_store_cell hg hi h1 hs]
  exact hK _ _ (h _ (hg.set i v) (GKit.Fr.set1 _ _ _ _) (by simp [World.setCell]))
theorem wpList_load_cell_g {P : Program} {ops : Array Oper} {rest : List Oper} {o : Oper} {a : Act} {w : World} {Q : Exit → Act → World → Prop} (hw : Region.wanted o (yielded ops a.tmps) = true) (ty : TypeId) (x : Operand) (ho : o.op = .load ty x)
  (g i : Nat) (hx : a.eval x = .pointer (some ⟨g, i, none⟩)) (v : Value) (d : TypeDesc) (hc : w.cell? ⟨g, i, none⟩ = some v)
  (hu : P.underlying ty = some d) (hd : (match d with | .struct _ | .array _ _ => false | _ => true) = true)
  (h : wpList P ops Q rest (a.put o.dst v) w) : wpList P ops Q (o :: rest) a w := by
 refine wpList_run_g hw v w ?_ h
 have hagg : (isAgg ty).run P w = .ok false w := by
  unfold isAgg
  rw [Sem.run_bind, run_underlying hu w]
  cases d <;> simp_all
 unfold execOp
 simp only [ho, hx, Instr.loadAt, Instr.sureAddr, Sem.run_bind, Sem.run_pure, Result.andThen_ok]
 simp [loadVar, Sem.run_bind, hagg, run_load, hc]
theorem wpList_buildSlice1_w {P : Program} {ops : Array Oper} {rest : List Oper} {o : Oper} {a : Act} {w : World} {Q : Exit → Act → World → Prop} (hg : o.guard = none) (t e : TypeId) (x : Operand) (ho : o.op = .buildSlice t 1 #[(0, x)])
  (hb : ∃ (i : TypeInfo) (z : Value) (k : Nat) (X : Array Value), P.underlying t = some (.slice e) ∧ P.info? e = some i ∧ i.zero = some z ∧ i.size = k ∧ 0 < k ∧ k ≤ 16777216 ∧ X.size = k ∧ (a.eval x = .agg X ∨ (X = #[a.eval x] ∧ (a.eval x).oneCell' = true)) ∧
   ∀ g W, Bk W g X e → Fr0 w W → w.heap.size ≤ g → g < W.heap.size → wpList P ops Q rest (a.put o.dst (.slice (some ⟨g, 0, none⟩) 1 1)) W) : wpList P ops Q (o :: rest) a w := by
 obtain ⟨i, z, k, X, ht, hi, hz, hsize, hk, hk2, hX, hx, h⟩ := hb
 refine wpList_plain hg fun K hK => ?_
 have hcx : (Instr.buildSlice t 1 #[(0, a.eval x)]) = Instr.buildSlice t 1 #[(0, .agg X)] := by
  rcases hx with hx | ⟨rfl, h1⟩
  ·rw [hx]
  ·have hc : (a.eval x).cells = #[a.eval x] := by
    generalize a.eval x = v at *
    cases v <;> first | rfl | cases h1
   have hfill : ∀ f cs, Instr.fill f cs (#[(0, a.eval x)] : Array (Nat × Value)).toList = Instr.fill f cs (#[(0, Value.agg #[a.eval x])] : Array (Nat × Value)).toList := fun f cs => by
    show Instr.fill f cs [(0, a.eval x)] = Instr.fill f cs [(0, .agg #[a.eval x])]
    unfold Instr.fill
    rw [hc]
    rfl
   unfold Instr.buildSlice
   simp only [hfill]
 unfold Oper.wp execOp
 have hr := GApp.run_buildSlice_one (P := P) w t e i z k ht hi hz hsize hk hk2 X hX
 simp only [ho, Sem.run_bind, List.map_toArray, List.map_cons, List.map_nil, hcx, hr, Result.andThen_ok]
 exact hK _ _ (h _ _ (Bk.new w _) (Fr.alloc (Fr.refl _ _) _) (Nat.le_refl _) (Bk.lt (Bk.new w _)))

end Go.Proofs.YtmkmpfnadcmcoaaGreatDoor.WKit
