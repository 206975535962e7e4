/- The law PtrBack, walked. -/
import Derived.Test.YtjkaenhopkigdaaDoorPtrBackPlain
import Derived.Test.YtjkaenhopkigdaaDoorPtrAlive
import Derived.Test.YtjkaenhopkigdaaDoorPtrMake
set_option linter.unusedVariables false
set_option linter.unusedSimpArgs false
namespace Go.Proofs.YtjkaenhopkigdaaDoor.PtrBackLaw
open Go Go.RowKit Go.Proofs.YtjkaenhopkigdaaDoor.K Go.Proofs.YtjkaenhopkigdaaDoor.EqKit Go.Proofs.YtjkaenhopkigdaaDoor.PtrKit Go.Proofs.YtjkaenhopkigdaaDoor.ArrKit Go.Proofs.YtjkaenhopkigdaaDoor.HeldKit Go.Proofs.YtjkaenhopkigdaaDoor.PtrAsk Go.Proofs.YtjkaenhopkigdaaDoor.ShaStep Go.Proofs.YtjkaenhopkigdaaDoor.ShaRef Go.Proofs.YtjkaenhopkigdaaDoor.ShaSum Go.Proofs.YtjkaenhopkigdaaDoor.PtrOf Go.Proofs.YtjkaenhopkigdaaDoor.PtrAlive Go.Proofs.YtjkaenhopkigdaaDoor.PtrRFit Go.Proofs.YtjkaenhopkigdaaDoor.PtrNode Go.Proofs.YtjkaenhopkigdaaDoor.PtrParts Go.Proofs.YtjkaenhopkigdaaDoor.PtrNodeLaw Go.Proofs.YtjkaenhopkigdaaDoor.PtrTake Go.Proofs.YtjkaenhopkigdaaDoor.PtrPut Go.Proofs.YtjkaenhopkigdaaDoor.PtrOwn Go.Proofs.YtjkaenhopkigdaaDoor.WordPut Go.Proofs.YtjkaenhopkigdaaDoor.WordTake Go.Proofs.YtjkaenhopkigdaaDoor.RefCopy Go.Proofs.YtjkaenhopkigdaaDoor.PtrBackPlain Go.Proofs.YtjkaenhopkigdaaDoor.PtrMake

theorem wpList_load_mid_g {P : Program} {ops : Array Oper} {rest : List Oper} {op : Oper} {a : Act} {w : World} {Q : Exit → Act → World → Prop} (hw : Region.wanted op (yielded ops a.tmps) = true) (ty : TypeId) (x : Operand) (ho : op.op = .load ty x)
    (b o : Nat) (hx : a.eval x = .pointer (some ⟨b, o, none⟩)) (cs : List Value) (d : TypeDesc) (hc : w.rangeAt b o cs)
    (hu : P.underlying ty = some d) (hd : d.isRow = true) (hi : (P.info? ty).map (·.size) = some cs.length)
    (h : wpList P ops Q rest (a.put op.dst (.agg cs.toArray)) w) : wpList P ops Q (op :: rest) a w := by
  unfold wpList
  rw [if_pos hw]
  exact Or.inl (wp_load_mid ty x ho b o hx cs d hc hu hd hi h)

set_option maxHeartbeats 2000000 in
set_option maxRecDepth 100000 in
theorem back_a_false (A0 : Option Addr) (n c : Nat) (ls : List V3) (a0 : Option Addr) (m cm : Nat) (l : List UInt8) (p : Int) (w : World) (hl : ls.length = n) (hrd : RdV w A0 ls) (hok : ∀ v ∈ ls, v.ok) (hc : n ≤ c) (hcm : c ≤ 9223372036854775807) (hn : n ≤ 140737488351232) (hll : l.length = m) (hrl : Rd w a0 l) (hm : m ≤ 140737488351232) {tk tb : TypeId} (hK : Bk w 1 KC tk) (hB : Bk w 0 HB8 tb) (hno : nodeOK ls = false) (h0 : 0 < n) (hk2 : okPut m p (el ls 0).a (el ls 0).b (el ls 0).s = false) :
    Calls Tryd.prog 8 #[.slice A0 n c, .slice a0 m cm, .int .i64 p] w fun e w' => e = .returned (.bool true) ∧ Fr0 w w' := by
  obtain ⟨b0, o0, rfl, -⟩ := hrd 0 (by omega)
  have h0i : (0 : Int) < n := by omega
  have hv := el_ok hok 0
  have HRG : Hid (∀ W : World, RdV W (some ⟨b0, o0, none⟩) ls → W.rangeAt b0 o0 (el ls 0).pc) := Lib.hid (fun W h => by
    obtain ⟨b, o, e, hr⟩ := h 0 (by omega)
    simp only [Option.some.injEq, Addr.mk.injEq, and_true] at e
    obtain ⟨rfl, rfl⟩ := e
    rw [← el_in, Nat.zero_mul, Nat.add_zero] at hr
    exact hr)
  have HIV : Hid ((Tryd.prog.info? 26).map (·.size) = some (el ls 0).pc.length) := Lib.hid (by rw [info_p, pc_length hv])
  have HIVa : Hid ((Tryd.prog.info? 26).map (·.size) = some (el ls 0).pc.toArray.size) := Lib.hid (by rw [info_p, List.size_toArray, pc_length hv])
  have HZV : Hid (ZERO.size = (el ls 0).pc.toArray.size) := Lib.hid ((show ZERO.size = 34 from rfl).trans (by rw [List.size_toArray, pc_length hv]))
  have HVO : Hid ((el ls 0).pc.toArray.all (·.oneCell') = true) := Lib.hid (by simp [V3.pc, PC, B, Value.oneCell'])
  have hpE : putE m p (el ls 0).a (el ls 0).b (el ls 0).s = 1 := by rw [putE, hk2]; rfl
  have hpL : putL l m p (el ls 0).a (el ls 0).b (el ls 0).s = l := by rw [putL, hk2]; rfl
  have HPU : Hid (∀ (W : World) (g cap : Nat) (cur : Array Value), Own W g m cap cur l → Calls Tryd.prog 23 #[.slice (some ⟨g, 0, none⟩) m cap, .int .i64 p, .agg (el ls 0).pc.toArray] W fun e w' => e = .returned (.int .i64 1) ∧ (∃ cur', Own w' g m cap cur' l) ∧ Fr (· = g) W w') := Lib.hid (fun W g cap cur h => by
    have := own_put g m cap p (el ls 0).a (el ls 0).b (el ls 0).s cur l W h hm hv.len hv.wa hv.wb
    rw [hpE, hpL] at this
    exact this)
  have HSA : Hid (∀ (W : World) (g cap : Nat), Rd W (some ⟨g, 0, none⟩) l → Rd W a0 l → Calls Tryd.prog 25 #[.slice (some ⟨g, 0, none⟩) m cap, .slice a0 m cm] W fun e w' => e = .returned (.bool true) ∧ W = w') := Lib.hid (fun W g cap h1 h2 => by
    have := same_calls (some ⟨g, 0, none⟩) a0 m m cap cm l l W hll h1 hll h2
    rw [decide_eq_true (rfl : l = l)] at this
    exact this)
  have hc0 : ((n : Int) == 0) = false := by rw [beq_eq_false_iff_ne]; omega
  clear hpE hpL hv hk2
  have HNO : Hid (∀ W : World, RdV W (some ⟨b0, o0, none⟩) ls → Calls Tryd.prog 26 #[.slice (some ⟨b0, o0, none⟩) n c] W fun e w' => e = .returned (.tuple #[.agg (nodeX ls), .int .i64 (nodeE ls)]) ∧ Fr0 W w') := Lib.hid (fun W h => node_calls (some ⟨b0, o0, none⟩) n c ls W hl h hok hc hcm hn)
  have HIN : Hid ((Tryd.prog.info? 22).map (·.size) = some (nodeX ls).size) := Lib.hid (by rw [infoB, nodeX_size hok])
  have HZN : Hid (ZA.size = (nodeX ls).size) := Lib.hid ((show ZA.size = 128 by simp [ZA, Z128]).trans (nodeX_size hok).symm)
  have HON := Lib.hid (nodeX_one hok)
  have HCP : Hid (∀ W : World, Rd W a0 l → Calls Tryd.prog 20 #[.slice a0 m cm] W (CopyPost m l W)) := Lib.hid (fun W h => copy_calls a0 m cm l W hll h hm)
  have hz : ∀ W, (zeroValue 22).run Tryd.prog W = .ok (.agg ZA) W := by intro W; kernel_rfl
  have hz3 : ∀ W, (zeroValue 46).run Tryd.prog W = .ok (.agg ZERO3) W := by intro W; kernel_rfl
  have HF_w0 : Hid (Fr0 w w) := Lib.hid (Fr.refl _ _)
  have HD_w0 := Lib.hid hrd
  have HR_w0 := Lib.hid hrl
  have HK_w0 := Lib.hid hK
  have HB_w0 := Lib.hid hB
  have HL := Lib.hid hl
  have HLL := Lib.hid hll
  have HOK := Lib.hid hok
  have hE : nodeE ls = 1 := by rw [nodeE, hno]; rfl
  rw [hE] at HNO
  clear hl hrd hok hll hrl hK hB hE hno h0
  go_enter Tryd.func8, Tryd.ntmps8
  go_wp2_with (first | (go_at_call 9; (with_reducible refine (alive_calls _ HK_w0.out HB_w0.out).mono ?_); rintro e w1 ⟨rfl, hf⟩; have HF_w1 := Lib.hid (HF_w0.out.then0 hf); have HD_w1 := Lib.hid (HD_w0.out.later hf (fun _ _ h => h)); have HR_w1 := Lib.hid (HR_w0.out.later hf (fun _ _ h => h)); clear hf) | (go_at_call 26; (with_reducible refine (HNO.out _ HD_w1.out).mono ?_); rintro e w2 ⟨rfl, hf⟩; have HF_w2 := Lib.hid (HF_w1.out.then0 hf); have HD_w2 := Lib.hid (HD_w1.out.later hf (fun _ _ h => h)); have HR_w2 := Lib.hid (HR_w1.out.later hf (fun _ _ h => h)); have HZ_w2 : Hid (Bk (w2.alloc (.cells ZA 22)) w2.heap.size ZA 22) := Lib.hid (Bk.new _ _); clear hf) | (refine wpList_store_row rfl 22 _ _ rfl w2.heap.size (nodeX ls) rfl rfl 22 ZA HZ_w2.out HIN.out HZN.out HON.out ?_; change wpList _ _ _ _ _ ((w2.alloc (.cells ZA 22)).setRow w2.heap.size (nodeX ls)); have hfx : Fr0 w2 ((w2.alloc (.cells ZA 22)).setRow w2.heap.size (nodeX ls)) := ArrKit.Fr.row (Fr.alloc (Fr.refl _ _) _) _ _ (.inl (Nat.le_refl _)); have HG1_w3 : Hid (Bk ((w2.alloc (.cells ZA 22)).setRow w2.heap.size (nodeX ls)) w2.heap.size (nodeX ls) 22) := Lib.hid (ArrKit.Bk.row HZ_w2.out _); have HF_w3 := Lib.hid (HF_w2.out.then0 hfx); have HD_w3 := Lib.hid (HD_w2.out.later hfx (fun _ _ h => h)); have HR_w3 := Lib.hid (HR_w2.out.later hfx (fun _ _ h => h)); clear hfx; generalize ((w2.alloc (.cells ZA 22)).setRow w2.heap.size (nodeX ls)) = w3 at *; generalize w2.heap.size = G1 at *))
  refine (HCP.out _ HR_w3.out).mono ?_
  rintro e v1 ⟨g, cap, cur, rfl, hge, hown, hf⟩
  have HF_v1 := Lib.hid (HF_w3.out.then0 hf)
  have HD_v1 := Lib.hid (HD_w3.out.later hf (fun _ _ h => h))
  have HR_v1 := Lib.hid (HR_w3.out.later hf (fun _ _ h => h))
  have HO_v1 := Lib.hid hown
  have HGE : Hid (w.heap.size ≤ g) := Lib.hid (Nat.le_trans HF_w3.out.size hge)
  clear hf hown hge
  go_wp2_with (first | (refine wpList_load_mid rfl 26 _ rfl b0 o0 rfl (el ls 0).pc _ (HRG.out _ HD_v1.out) Tryd.underlying26 rfl HIV.out ?_) | (go_at_call 23; (with_reducible refine (HPU.out _ g cap cur HO_v1.out).mono ?_); rintro e v2 ⟨rfl, ⟨cur2, ho2⟩, hf2⟩; have HO_v2 := Lib.hid ho2; have HF_v2 : Hid (Fr0 w v2) := Lib.hid (HF_v1.out.then hf2 (fun i hi e => by have := HGE.out; omega)); have HD_v2 : Hid (RdV v2 (some ⟨b0, o0, none⟩) ls) := Lib.hid (RdV.past HD_w0.out HD_v1.out hf2 (fun b hb e => by have := HGE.out; omega)); have HR_v2 : Hid (Rd v2 a0 l) := Lib.hid (Rd.past HR_w0.out HR_v1.out hf2 (fun b hb e => by have := HGE.out; omega)); clear ho2 hf2) | (go_at_call 25; (with_reducible refine (HSA.out _ g cap HO_v2.out.rd HR_v2.out).mono ?_); rintro e v3 ⟨rfl, rfl⟩))
  go_ret
  exact ⟨rfl, HF_v2.out⟩

set_option maxHeartbeats 2000000 in
set_option maxRecDepth 100000 in
theorem back_a_true (A0 : Option Addr) (n c : Nat) (ls : List V3) (a0 : Option Addr) (m cm : Nat) (l : List UInt8) (p : Int) (w : World) (hl : ls.length = n) (hrd : RdV w A0 ls) (hok : ∀ v ∈ ls, v.ok) (hc : n ≤ c) (hcm : c ≤ 9223372036854775807) (hn : n ≤ 140737488351232) (hll : l.length = m) (hrl : Rd w a0 l) (hm : m ≤ 140737488351232) {tk tb : TypeId} (hK : Bk w 1 KC tk) (hB : Bk w 0 HB8 tb) (hno : nodeOK ls = false) (h0 : 0 < n) (hk2 : okPut m p (el ls 0).a (el ls 0).b (el ls 0).s = true) :
    Calls Tryd.prog 8 #[.slice A0 n c, .slice a0 m cm, .int .i64 p] w fun e w' => e = .returned (.bool true) ∧ Fr0 w w' := by
  obtain ⟨b0, o0, rfl, -⟩ := hrd 0 (by omega)
  have h0i : (0 : Int) < n := by omega
  have hv := el_ok hok 0
  have HRG : Hid (∀ W : World, RdV W (some ⟨b0, o0, none⟩) ls → W.rangeAt b0 o0 (el ls 0).pc) := Lib.hid (fun W h => by
    obtain ⟨b, o, e, hr⟩ := h 0 (by omega)
    simp only [Option.some.injEq, Addr.mk.injEq, and_true] at e
    obtain ⟨rfl, rfl⟩ := e
    rw [← el_in, Nat.zero_mul, Nat.add_zero] at hr
    exact hr)
  have HIV : Hid ((Tryd.prog.info? 26).map (·.size) = some (el ls 0).pc.length) := Lib.hid (by rw [info_p, pc_length hv])
  have HIVa : Hid ((Tryd.prog.info? 26).map (·.size) = some (el ls 0).pc.toArray.size) := Lib.hid (by rw [info_p, List.size_toArray, pc_length hv])
  have HZV : Hid (ZERO.size = (el ls 0).pc.toArray.size) := Lib.hid ((show ZERO.size = 34 from rfl).trans (by rw [List.size_toArray, pc_length hv]))
  have HVO : Hid ((el ls 0).pc.toArray.all (·.oneCell') = true) := Lib.hid (by simp [V3.pc, PC, B, Value.oneCell'])
  have hpE : putE m p (el ls 0).a (el ls 0).b (el ls 0).s = 0 := by rw [putE, hk2]; rfl
  have hpL : putL l m p (el ls 0).a (el ls 0).b (el ls 0).s = (splice l p.toNat (el ls 0).by) := by rw [putL, hk2]; rfl
  have HPU : Hid (∀ (W : World) (g cap : Nat) (cur : Array Value), Own W g m cap cur l → Calls Tryd.prog 23 #[.slice (some ⟨g, 0, none⟩) m cap, .int .i64 p, .agg (el ls 0).pc.toArray] W fun e w' => e = .returned (.int .i64 0) ∧ (∃ cur', Own w' g m cap cur' (splice l p.toNat (el ls 0).by)) ∧ Fr (· = g) W w') := Lib.hid (fun W g cap cur h => by
    have := own_put g m cap p (el ls 0).a (el ls 0).b (el ls 0).s cur l W h hm hv.len hv.wa hv.wb
    rw [hpE, hpL] at this
    exact this)
  have hk3 : rightB (el ls 0).a (el ls 0).b (el ls 0).s = true ∧ ¬ NoRoom m p 40 := by
    unfold okPut at hk2
    rw [Bool.and_eq_true, Bool.not_eq_true', decide_eq_false_iff_not] at hk2
    exact hk2
  have hnr := hk3.2
  unfold NoRoom at hnr
  have hbl := V3.by_length hv
  have hcut : ((splice l p.toNat (el ls 0).by).drop p.toNat).take 40 = (el ls 0).by := by
    have := splice_part (l := l) (m := (el ls 0).by) (p := p.toNat) (by omega)
    rw [hbl] at this
    exact this
  have htX : takeX (splice l p.toNat (el ls 0).by) m p = (el ls 0).pc.toArray := by
    rw [takeX, if_neg hk3.2, hcut, tkX, tkR_by hk3.1 hv, if_pos rfl, (tk_by hk3.1 hv).1, (tk_by hk3.1 hv).2.1, (tk_by hk3.1 hv).2.2]
    rfl
  have htE : takeE (splice l p.toNat (el ls 0).by) m p = 0 := by
    rw [takeE, if_neg hk3.2, hcut, tkE, tkR_by hk3.1 hv]; rfl
  have HTK : Hid (∀ (W : World) (g cap : Nat) (cur : Array Value), Own W g m cap cur (splice l p.toNat (el ls 0).by) → Calls Tryd.prog 21 #[.slice (some ⟨g, 0, none⟩) m cap, .int .i64 p] W fun e w' => e = .returned (.tuple #[.agg (el ls 0).pc.toArray, .int .i64 0]) ∧ Fr0 W w') := Lib.hid (fun W g cap cur h => by
    have := own_take g m cap p cur _ W h hm
    rw [htX, htE] at this
    exact this)
  have heqv : ∀ W, (Op.equalIn 10000 26 (.agg (el ls 0).pc.toArray) (.agg (el ls 0).pc.toArray)).run Tryd.prog W = .ok true W := eq_self (el ls 0).a (el ls 0).b (el ls 0).s hv.len hv.wa hv.wb
  clear hk3 hnr hbl hcut htX htE
  have hc0 : ((n : Int) == 0) = false := by rw [beq_eq_false_iff_ne]; omega
  clear hpE hpL hv hk2
  have HNO : Hid (∀ W : World, RdV W (some ⟨b0, o0, none⟩) ls → Calls Tryd.prog 26 #[.slice (some ⟨b0, o0, none⟩) n c] W fun e w' => e = .returned (.tuple #[.agg (nodeX ls), .int .i64 (nodeE ls)]) ∧ Fr0 W w') := Lib.hid (fun W h => node_calls (some ⟨b0, o0, none⟩) n c ls W hl h hok hc hcm hn)
  have HIN : Hid ((Tryd.prog.info? 22).map (·.size) = some (nodeX ls).size) := Lib.hid (by rw [infoB, nodeX_size hok])
  have HZN : Hid (ZA.size = (nodeX ls).size) := Lib.hid ((show ZA.size = 128 by simp [ZA, Z128]).trans (nodeX_size hok).symm)
  have HON := Lib.hid (nodeX_one hok)
  have HCP : Hid (∀ W : World, Rd W a0 l → Calls Tryd.prog 20 #[.slice a0 m cm] W (CopyPost m l W)) := Lib.hid (fun W h => copy_calls a0 m cm l W hll h hm)
  have hz : ∀ W, (zeroValue 22).run Tryd.prog W = .ok (.agg ZA) W := by intro W; kernel_rfl
  have hz3 : ∀ W, (zeroValue 46).run Tryd.prog W = .ok (.agg ZERO3) W := by intro W; kernel_rfl
  have HF_w0 : Hid (Fr0 w w) := Lib.hid (Fr.refl _ _)
  have HD_w0 := Lib.hid hrd
  have HR_w0 := Lib.hid hrl
  have HK_w0 := Lib.hid hK
  have HB_w0 := Lib.hid hB
  have HL := Lib.hid hl
  have HLL := Lib.hid hll
  have HOK := Lib.hid hok
  have hE : nodeE ls = 1 := by rw [nodeE, hno]; rfl
  rw [hE] at HNO
  clear hl hrd hok hll hrl hK hB hE hno h0
  go_enter Tryd.func8, Tryd.ntmps8
  go_wp2_with (first | (go_at_call 9; (with_reducible refine (alive_calls _ HK_w0.out HB_w0.out).mono ?_); rintro e w1 ⟨rfl, hf⟩; have HF_w1 := Lib.hid (HF_w0.out.then0 hf); have HD_w1 := Lib.hid (HD_w0.out.later hf (fun _ _ h => h)); have HR_w1 := Lib.hid (HR_w0.out.later hf (fun _ _ h => h)); clear hf) | (go_at_call 26; (with_reducible refine (HNO.out _ HD_w1.out).mono ?_); rintro e w2 ⟨rfl, hf⟩; have HF_w2 := Lib.hid (HF_w1.out.then0 hf); have HD_w2 := Lib.hid (HD_w1.out.later hf (fun _ _ h => h)); have HR_w2 := Lib.hid (HR_w1.out.later hf (fun _ _ h => h)); have HZ_w2 : Hid (Bk (w2.alloc (.cells ZA 22)) w2.heap.size ZA 22) := Lib.hid (Bk.new _ _); clear hf) | (refine wpList_store_row rfl 22 _ _ rfl w2.heap.size (nodeX ls) rfl rfl 22 ZA HZ_w2.out HIN.out HZN.out HON.out ?_; change wpList _ _ _ _ _ ((w2.alloc (.cells ZA 22)).setRow w2.heap.size (nodeX ls)); have hfx : Fr0 w2 ((w2.alloc (.cells ZA 22)).setRow w2.heap.size (nodeX ls)) := ArrKit.Fr.row (Fr.alloc (Fr.refl _ _) _) _ _ (.inl (Nat.le_refl _)); have HG1_w3 : Hid (Bk ((w2.alloc (.cells ZA 22)).setRow w2.heap.size (nodeX ls)) w2.heap.size (nodeX ls) 22) := Lib.hid (ArrKit.Bk.row HZ_w2.out _); have HF_w3 := Lib.hid (HF_w2.out.then0 hfx); have HD_w3 := Lib.hid (HD_w2.out.later hfx (fun _ _ h => h)); have HR_w3 := Lib.hid (HR_w2.out.later hfx (fun _ _ h => h)); clear hfx; generalize ((w2.alloc (.cells ZA 22)).setRow w2.heap.size (nodeX ls)) = w3 at *; generalize w2.heap.size = G1 at *))
  refine (HCP.out _ HR_w3.out).mono ?_
  rintro e v1 ⟨g, cap, cur, rfl, hge, hown, hf⟩
  have HF_v1 := Lib.hid (HF_w3.out.then0 hf)
  have HD_v1 := Lib.hid (HD_w3.out.later hf (fun _ _ h => h))
  have HR_v1 := Lib.hid (HR_w3.out.later hf (fun _ _ h => h))
  have HO_v1 := Lib.hid hown
  have HGE : Hid (w.heap.size ≤ g) := Lib.hid (Nat.le_trans HF_w3.out.size hge)
  clear hf hown hge
  go_wp2_with (first | (refine wpList_load_mid rfl 26 _ rfl b0 o0 rfl (el ls 0).pc _ (HRG.out _ HD_v1.out) Tryd.underlying26 rfl HIV.out ?_) | (go_at_call 23; (with_reducible refine (HPU.out _ g cap cur HO_v1.out).mono ?_); rintro e v2 ⟨rfl, ⟨cur2, ho2⟩, hf2⟩; have HO_v2 := Lib.hid ho2; have HF_v2 : Hid (Fr0 w v2) := Lib.hid (HF_v1.out.then hf2 (fun i hi e => by have := HGE.out; omega)); have HD_v2 : Hid (RdV v2 (some ⟨b0, o0, none⟩) ls) := Lib.hid (RdV.past HD_w0.out HD_v1.out hf2 (fun b hb e => by have := HGE.out; omega)); have HR_v2 : Hid (Rd v2 a0 l) := Lib.hid (Rd.past HR_w0.out HR_v1.out hf2 (fun b hb e => by have := HGE.out; omega)); clear ho2 hf2) | (go_at_call 21; (with_reducible refine (HTK.out _ g cap cur2 HO_v2.out).mono ?_); rintro e v3 ⟨rfl, hf⟩; have HF_v3 := Lib.hid (HF_v2.out.then0 hf); have HD_v3 := Lib.hid (HD_v2.out.later hf (fun _ _ h => h)); have HZ_v3 : Hid (Bk (v3.alloc (.cells ZERO 26)) v3.heap.size ZERO 26) := Lib.hid (Bk.new _ _); clear hf) | (refine wpList_store_row rfl 26 _ _ rfl v3.heap.size (el ls 0).pc.toArray rfl rfl 26 ZERO HZ_v3.out HIVa.out HZV.out HVO.out ?_; change wpList _ _ _ _ _ ((v3.alloc (.cells ZERO 26)).setRow v3.heap.size (el ls 0).pc.toArray); have hfx : Fr0 v3 ((v3.alloc (.cells ZERO 26)).setRow v3.heap.size (el ls 0).pc.toArray) := ArrKit.Fr.row (Fr.alloc (Fr.refl _ _) _) _ _ (.inl (Nat.le_refl _)); have HJ_v4 : Hid (Bk ((v3.alloc (.cells ZERO 26)).setRow v3.heap.size (el ls 0).pc.toArray) v3.heap.size (el ls 0).pc.toArray 26) := Lib.hid (ArrKit.Bk.row HZ_v3.out _); have HF_v4 := Lib.hid (HF_v3.out.then0 hfx); have HD_v4 := Lib.hid (HD_v3.out.later hfx (fun _ _ h => h)); clear hfx; generalize ((v3.alloc (.cells ZERO 26)).setRow v3.heap.size (el ls 0).pc.toArray) = v4 at *; generalize v3.heap.size = J at *))
  obtain ⟨ob, hob⟩ : ∃ ob, v4.heap[b0]? = some ob := ⟨_, Array.getElem?_eq_getElem (World.block_lt_of_cell? v4 _ (HRG.out _ HD_v4.out 0 (.int .i64 (el ls 0).a) rfl))⟩
  have HRO : Hid (∀ W : World, W.heap[b0]? = some ob → W.rangeAt b0 o0 (el ls 0).pc) := Lib.hid (fun W h j u hj => by
    have := HRG.out _ HD_v4.out j u hj
    simp only [World.cell?, hob, h] at this ⊢
    exact this)
  have H4 : Hid (Held w [(J, .cells (el ls 0).pc.toArray 26 (0, 0)), (b0, ob)] v4) := Lib.hid (Held.cons HJ_v4.out (Held.cons hob (Held.nil HF_v4.out)))
  clear hob
  refine wp_region_noPanic ?_
  refine wp_region_held_drew (S := (Held w [(J, .cells (el ls 0).pc.toArray 26 (0, 0)), (b0, ob)])) (by kernel_rfl) (Held.drew H4.out) (fun hHeld0 => ?_)
  change wpAnyH _ _ _ _ _ 10 #[false, false, false, false, false, false, false, false, false, false] _ _
  refine wpAnyH_take (i := 0) (v := .int .i64 0) rfl (by kernel_rfl) (by kernel_rfl) (by kernel_rfl) (fun _ _ _ h => h) (Or.inl ⟨by kernel_rfl, fun w hSw => by first | kernel_rfl | (go_simp; done)⟩) hHeld0 ?_
  simp only [Act.put, List.getElem_toArray, List.getElem_cons_succ, List.getElem_cons_zero, List.setIfInBounds_toArray, List.set_cons_zero, List.set_cons_succ]
  change wpAnyH _ _ _ _ _ 9 #[true, false, false, false, false, false, false, false, false, false] _ _
  refine wpAnyH_take (i := 1) (v := .bool true) rfl (by kernel_rfl) (by kernel_rfl) (by kernel_rfl) (fun _ _ _ h => h) (Or.inl ⟨by kernel_rfl, fun w hSw => by go_simp <;> (first | exact beq_iff_eq.1 (by assumption) | exact beq_eq_false_iff_ne.1 (by assumption) | omega)⟩) hHeld0 ?_
  simp only [Act.put, List.getElem_toArray, List.getElem_cons_succ, List.getElem_cons_zero, List.setIfInBounds_toArray, List.set_cons_zero, List.set_cons_succ]
  change wpAnyH _ _ _ _ _ 8 #[true, true, false, false, false, false, false, false, false, false] _ _
  refine wpAnyH_take (i := 2) (v := .bool true) rfl (by kernel_rfl) (by kernel_rfl) (by kernel_rfl) (fun _ _ _ h => h) (Or.inl ⟨by kernel_rfl, fun w hSw => by first | kernel_rfl | (go_simp; done)⟩) hHeld0 ?_
  simp only [Act.put, List.getElem_toArray, List.getElem_cons_succ, List.getElem_cons_zero, List.setIfInBounds_toArray, List.set_cons_zero, List.set_cons_succ]
  change wpAnyH _ _ _ _ _ 7 #[true, true, true, false, false, false, false, false, false, false] _ _
  refine wpAnyH_take (i := 3) (v := .agg (el ls 0).pc.toArray) rfl (by kernel_rfl) (by kernel_rfl) (by kernel_rfl) (fun _ _ _ h => h) (yields_row (by kernel_rfl) 26 _ rfl (J) rfl 26 (el ls 0).pc.toArray (0, 0) _ (fun w h => Held.a0 h) Tryd.underlying26 rfl HIVa.out) hHeld0 ?_
  simp only [Act.put, List.getElem_toArray, List.getElem_cons_succ, List.getElem_cons_zero, List.setIfInBounds_toArray, List.set_cons_zero, List.set_cons_succ]
  change wpAnyH _ _ _ _ _ 6 #[true, true, true, true, false, false, false, false, false, false] _ _
  refine wpAnyH_take (i := 4) (v := .slice (some ⟨b0, o0, none⟩) n c) rfl (by kernel_rfl) (by kernel_rfl) (by kernel_rfl) (fun _ _ _ h => h) (Or.inl ⟨by kernel_rfl, fun w hSw => by first | kernel_rfl | (go_simp; done)⟩) hHeld0 ?_
  simp only [Act.put, List.getElem_toArray, List.getElem_cons_succ, List.getElem_cons_zero, List.setIfInBounds_toArray, List.set_cons_zero, List.set_cons_succ]
  change wpAnyH _ _ _ _ _ 5 #[true, true, true, true, true, false, false, false, false, false] _ _
  refine wpAnyH_take (i := 5) (v := .pointer (some ⟨b0, o0, none⟩)) rfl (by kernel_rfl) (by kernel_rfl) (by kernel_rfl) (fun _ _ _ h => h) (Or.inl ⟨by kernel_rfl, fun w hSw => by go_simp; intro hn0; omega⟩) hHeld0 ?_
  simp only [Act.put, List.getElem_toArray, List.getElem_cons_succ, List.getElem_cons_zero, List.setIfInBounds_toArray, List.set_cons_zero, List.set_cons_succ]
  change wpAnyH _ _ _ _ _ 4 #[true, true, true, true, true, true, false, false, false, false] _ _
  refine wpAnyH_take (i := 6) (v := .agg (el ls 0).pc.toArray) rfl (by kernel_rfl) (by kernel_rfl) (by kernel_rfl) (fun _ _ _ h => h) (yieldsIf_load_mid (by kernel_rfl) 26 _ rfl b0 o0 rfl (el ls 0).pc _ (fun W h => HRO.out W (Held.a0 (Held.tl h))) Tryd.underlying26 rfl HIV.out) hHeld0 ?_
  simp only [Act.put, List.getElem_toArray, List.getElem_cons_succ, List.getElem_cons_zero, List.setIfInBounds_toArray, List.set_cons_zero, List.set_cons_succ]
  change wpAnyH _ _ _ _ _ 3 #[true, true, true, true, true, true, true, false, false, false] _ _
  refine wpAnyH_take (i := 7) (v := .bool true) rfl (by kernel_rfl) (by kernel_rfl) (by kernel_rfl) (fun _ _ _ h => h) (Or.inl ⟨by kernel_rfl, fun w hSw => run_eql_op rfl rfl rfl guard_p heqv w⟩) hHeld0 ?_
  simp only [Act.put, List.getElem_toArray, List.getElem_cons_succ, List.getElem_cons_zero, List.setIfInBounds_toArray, List.set_cons_zero, List.set_cons_succ]
  change wpAnyH _ _ _ _ _ 2 #[true, true, true, true, true, true, true, true, false, false] _ _
  refine wpAnyH_take (i := 8) (v := .bool true) rfl (by kernel_rfl) (by kernel_rfl) (by kernel_rfl) (fun _ _ _ h => h) (Or.inl ⟨by kernel_rfl, fun w hSw => by first | kernel_rfl | (go_simp; done)⟩) hHeld0 ?_
  simp only [Act.put, List.getElem_toArray, List.getElem_cons_succ, List.getElem_cons_zero, List.setIfInBounds_toArray, List.set_cons_zero, List.set_cons_succ]
  change wpAnyH _ _ _ _ _ 1 #[true, true, true, true, true, true, true, true, true, false] _ _
  refine wpAnyH_take (i := 9) (v := .bool true) rfl (by kernel_rfl) (by kernel_rfl) (by kernel_rfl) (fun _ _ _ h => h) (Or.inl ⟨by kernel_rfl, fun w hSw => by first | kernel_rfl | (go_simp; done)⟩) hHeld0 ?_
  simp only [Act.put, List.getElem_toArray, List.getElem_cons_succ, List.getElem_cons_zero, List.setIfInBounds_toArray, List.set_cons_zero, List.set_cons_succ]
  change wpAnyH _ _ _ _ _ 0 #[true, true, true, true, true, true, true, true, true, true] _ _
  refine wpAnyH_done (by kernel_rfl) ?_ _
  refine NoPanic.normal ?_
  have HFIN := Lib.hid (Held.f hHeld0)
  have HEND := Lib.hid hHeld0
  clear hHeld0
  go_wp2_with fail
  all_goals go_ret
  exact ⟨by first | rfl | kernel_rfl, HFIN.out⟩

theorem run_neq_op {P : Program} {o : Oper} {a : Act} {x y : Operand} {t u : TypeId} {X Y : Array Value} {b : Bool} (ho : o.op = .binOp .neq t x y u) (hx : a.eval x = .agg X) (hy : a.eval y = .agg Y) (hm : P.eqGuardType P.depth t = false)
    (heq : ∀ W, (Op.equalIn 10000 t (.agg X) (.agg Y)).run P W = .ok b W) (w : World) : (execOp a.eval o).run P w = .ok (.value (.bool (!b))) w := by
  unfold execOp
  simp only [ho, hx, hy, Sem.run_bind, run_neq_struct, heq, Result.andThen, Sem.run_pure, run_eqGuard_agg _ _ _ _ _ _ _ hm]

set_option maxHeartbeats 2000000 in
set_option maxRecDepth 100000 in
theorem back_b_false (A0 : Option Addr) (n c : Nat) (ls : List V3) (a0 : Option Addr) (m cm : Nat) (l : List UInt8) (p : Int) (w : World) (hl : ls.length = n) (hrd : RdV w A0 ls) (hok : ∀ v ∈ ls, v.ok) (hc : n ≤ c) (hcm : c ≤ 9223372036854775807) (hn : n ≤ 140737488351232) (hll : l.length = m) (hrl : Rd w a0 l) (hm : m ≤ 140737488351232) {tk tb : TypeId} (hK : Bk w 1 KC tk) (hB : Bk w 0 HB8 tb) (hno : nodeOK ls = true) (h0 : 0 < n) (hk2 : okPut m p (el ls 0).a (el ls 0).b (el ls 0).s = false) :
    Calls Tryd.prog 8 #[.slice A0 n c, .slice a0 m cm, .int .i64 p] w fun e w' => e = .returned (.bool true) ∧ Fr0 w w' := by
  obtain ⟨b0, o0, rfl, -⟩ := hrd 0 (by omega)
  have h0i : (0 : Int) < n := by omega
  have hv := el_ok hok 0
  have HRG : Hid (∀ W : World, RdV W (some ⟨b0, o0, none⟩) ls → W.rangeAt b0 o0 (el ls 0).pc) := Lib.hid (fun W h => by
    obtain ⟨b, o, e, hr⟩ := h 0 (by omega)
    simp only [Option.some.injEq, Addr.mk.injEq, and_true] at e
    obtain ⟨rfl, rfl⟩ := e
    rw [← el_in, Nat.zero_mul, Nat.add_zero] at hr
    exact hr)
  have HIV : Hid ((Tryd.prog.info? 26).map (·.size) = some (el ls 0).pc.length) := Lib.hid (by rw [info_p, pc_length hv])
  have HIVa : Hid ((Tryd.prog.info? 26).map (·.size) = some (el ls 0).pc.toArray.size) := Lib.hid (by rw [info_p, List.size_toArray, pc_length hv])
  have HZV : Hid (ZERO.size = (el ls 0).pc.toArray.size) := Lib.hid ((show ZERO.size = 34 from rfl).trans (by rw [List.size_toArray, pc_length hv]))
  have HVO : Hid ((el ls 0).pc.toArray.all (·.oneCell') = true) := Lib.hid (by simp [V3.pc, PC, B, Value.oneCell'])
  have hpE : putE m p (el ls 0).a (el ls 0).b (el ls 0).s = 1 := by rw [putE, hk2]; rfl
  have hpL : putL l m p (el ls 0).a (el ls 0).b (el ls 0).s = l := by rw [putL, hk2]; rfl
  have HPU : Hid (∀ (W : World) (g cap : Nat) (cur : Array Value), Own W g m cap cur l → Calls Tryd.prog 23 #[.slice (some ⟨g, 0, none⟩) m cap, .int .i64 p, .agg (el ls 0).pc.toArray] W fun e w' => e = .returned (.int .i64 1) ∧ (∃ cur', Own w' g m cap cur' l) ∧ Fr (· = g) W w') := Lib.hid (fun W g cap cur h => by
    have := own_put g m cap p (el ls 0).a (el ls 0).b (el ls 0).s cur l W h hm hv.len hv.wa hv.wb
    rw [hpE, hpL] at this
    exact this)
  have HSA : Hid (∀ (W : World) (g cap : Nat), Rd W (some ⟨g, 0, none⟩) l → Rd W a0 l → Calls Tryd.prog 25 #[.slice (some ⟨g, 0, none⟩) m cap, .slice a0 m cm] W fun e w' => e = .returned (.bool true) ∧ W = w') := Lib.hid (fun W g cap h1 h2 => by
    have := same_calls (some ⟨g, 0, none⟩) a0 m m cap cm l l W hll h1 hll h2
    rw [decide_eq_true (rfl : l = l)] at this
    exact this)
  have hc0 : ((n : Int) == 0) = false := by rw [beq_eq_false_iff_ne]; omega
  clear hpE hpL hv hk2
  have HNO : Hid (∀ W : World, RdV W (some ⟨b0, o0, none⟩) ls → Calls Tryd.prog 26 #[.slice (some ⟨b0, o0, none⟩) n c] W fun e w' => e = .returned (.tuple #[.agg (nodeX ls), .int .i64 (nodeE ls)]) ∧ Fr0 W w') := Lib.hid (fun W h => node_calls (some ⟨b0, o0, none⟩) n c ls W hl h hok hc hcm hn)
  have HIN : Hid ((Tryd.prog.info? 22).map (·.size) = some (nodeX ls).size) := Lib.hid (by rw [infoB, nodeX_size hok])
  have HZN : Hid (ZA.size = (nodeX ls).size) := Lib.hid ((show ZA.size = 128 by simp [ZA, Z128]).trans (nodeX_size hok).symm)
  have HON := Lib.hid (nodeX_one hok)
  have HCP : Hid (∀ W : World, Rd W a0 l → Calls Tryd.prog 20 #[.slice a0 m cm] W (CopyPost m l W)) := Lib.hid (fun W h => copy_calls a0 m cm l W hll h hm)
  have hz : ∀ W, (zeroValue 22).run Tryd.prog W = .ok (.agg ZA) W := by intro W; kernel_rfl
  have hz3 : ∀ W, (zeroValue 46).run Tryd.prog W = .ok (.agg ZERO3) W := by intro W; kernel_rfl
  have HF_w0 : Hid (Fr0 w w) := Lib.hid (Fr.refl _ _)
  have HD_w0 := Lib.hid hrd
  have HR_w0 := Lib.hid hrl
  have HK_w0 := Lib.hid hK
  have HB_w0 := Lib.hid hB
  have HL := Lib.hid hl
  have HLL := Lib.hid hll
  have HOK := Lib.hid hok
  have hE : nodeE ls = 0 := by rw [nodeE, hno]; rfl
  have hX : nodeX ls = ((nodeL ls).map B).toArray := by rw [nodeX, hno]; rfl
  have hnr : nodeR ls 3 = true := by
    unfold nodeOK at hno
    rw [Bool.and_eq_true] at hno
    exact hno.2
  have hL3 := partsL_node hok hnr
  have HPA : Hid (∀ W : World, Calls Tryd.prog 28 #[.agg (nodeX ls)] W fun e w' => e = .returned (.tuple #[.agg (partsL (nodeL ls) 3).toArray, .int .i64 0]) ∧ Fr0 W w') := Lib.hid (fun W => by
    have := parts_all (nodeL ls) W (nodeL_length hok)
    rw [partsX, partsE, parts_node hok hnr] at this
    rw [hX]
    exact this)
  have hPl := partsL_length (nodeL_length hok) 3 (Nat.le_refl _)
  have HIP : Hid ((Tryd.prog.info? 46).map (·.size) = some (partsL (nodeL ls) 3).toArray.size) := Lib.hid (by rw [info3, List.size_toArray, hPl])
  have HZP : Hid (ZERO3.size = (partsL (nodeL ls) 3).toArray.size) := Lib.hid (ZERO3_size.trans (by rw [List.size_toArray, hPl]))
  have HOP : Hid ((partsL (nodeL ls) 3).toArray.all (·.oneCell') = true) := Lib.hid (by simp [partsL, V3.pc, PC, B, Value.oneCell'])
  have HGT : Hid (∀ k, k < 3 → ∀ j u, (el ls k).pc[j]? = some u → (partsL (nodeL ls) 3).toArray[k * 34 + j]? = some u) := Lib.hid (fun k hk j u hj => by
    have l0 := pc_length (el_ok hok 0)
    have l1 := pc_length (el_ok hok 1)
    have hjl : j < (el ls k).pc.length := (List.getElem?_eq_some_iff.1 hj).1
    rw [pc_length (el_ok hok k)] at hjl
    rw [List.getElem?_toArray, hL3]
    rcases (show k = 0 ∨ k = 1 ∨ k = 2 by omega) with rfl | rfl | rfl
    · rw [Nat.zero_mul, Nat.zero_add, List.getElem?_append_left (by omega)]; exact hj
    · rw [List.getElem?_append_right (by omega), List.getElem?_append_left (by rw [l0, l1]; omega), l0, show 1 * 34 + j - 34 = j by omega]; exact hj
    · rw [List.getElem?_append_right (by omega), List.getElem?_append_right (by rw [l0, l1]; omega), l0, l1, show 2 * 34 + j - 34 - 34 = j by omega]; exact hj)
  rw [hE] at HNO
  clear hl hrd hok hll hrl hK hB hE hno h0 hX hnr hL3 hPl
  go_enter Tryd.func8, Tryd.ntmps8
  go_wp2_with (first | (go_at_call 9; (with_reducible refine (alive_calls _ HK_w0.out HB_w0.out).mono ?_); rintro e w1 ⟨rfl, hf⟩; have HF_w1 := Lib.hid (HF_w0.out.then0 hf); have HD_w1 := Lib.hid (HD_w0.out.later hf (fun _ _ h => h)); have HR_w1 := Lib.hid (HR_w0.out.later hf (fun _ _ h => h)); clear hf) | (go_at_call 26; (with_reducible refine (HNO.out _ HD_w1.out).mono ?_); rintro e w2 ⟨rfl, hf⟩; have HF_w2 := Lib.hid (HF_w1.out.then0 hf); have HD_w2 := Lib.hid (HD_w1.out.later hf (fun _ _ h => h)); have HR_w2 := Lib.hid (HR_w1.out.later hf (fun _ _ h => h)); have HZ_w2 : Hid (Bk (w2.alloc (.cells ZA 22)) w2.heap.size ZA 22) := Lib.hid (Bk.new _ _); clear hf) | (refine wpList_store_row rfl 22 _ _ rfl w2.heap.size (nodeX ls) rfl rfl 22 ZA HZ_w2.out HIN.out HZN.out HON.out ?_; change wpList _ _ _ _ _ ((w2.alloc (.cells ZA 22)).setRow w2.heap.size (nodeX ls)); have hfx : Fr0 w2 ((w2.alloc (.cells ZA 22)).setRow w2.heap.size (nodeX ls)) := ArrKit.Fr.row (Fr.alloc (Fr.refl _ _) _) _ _ (.inl (Nat.le_refl _)); have HG1_w3 : Hid (Bk ((w2.alloc (.cells ZA 22)).setRow w2.heap.size (nodeX ls)) w2.heap.size (nodeX ls) 22) := Lib.hid (ArrKit.Bk.row HZ_w2.out _); have HF_w3 := Lib.hid (HF_w2.out.then0 hfx); have HD_w3 := Lib.hid (HD_w2.out.later hfx (fun _ _ h => h)); have HR_w3 := Lib.hid (HR_w2.out.later hfx (fun _ _ h => h)); clear hfx; generalize ((w2.alloc (.cells ZA 22)).setRow w2.heap.size (nodeX ls)) = w3 at *; generalize w2.heap.size = G1 at *) | (refine wpList_load_row rfl 22 _ rfl G1 rfl 22 (nodeX ls) (0, 0) _ HG1_w3.out Tryd.underlying22 rfl HIN.out ?_) | (go_at_call 28; (with_reducible refine (HPA.out _).mono ?_); rintro e w4 ⟨rfl, hf⟩; have HF_w4 := Lib.hid (HF_w3.out.then0 hf); have HD_w4 := Lib.hid (HD_w3.out.later hf (fun _ _ h => h)); have HR_w4 := Lib.hid (HR_w3.out.later hf (fun _ _ h => h)); have HG1_w4 := Lib.hid (hf.keep HG1_w3.out (fun h => h)); have HZ_w4 : Hid (Bk (w4.alloc (.cells ZERO3 46)) w4.heap.size ZERO3 46) := Lib.hid (Bk.new _ _); clear hf) | (refine wpList_store_row rfl 46 _ _ rfl w4.heap.size (partsL (nodeL ls) 3).toArray rfl rfl 46 ZERO3 HZ_w4.out HIP.out HZP.out HOP.out ?_; change wpList _ _ _ _ _ ((w4.alloc (.cells ZERO3 46)).setRow w4.heap.size (partsL (nodeL ls) 3).toArray); have hfx : Fr0 w4 ((w4.alloc (.cells ZERO3 46)).setRow w4.heap.size (partsL (nodeL ls) 3).toArray) := ArrKit.Fr.row (Fr.alloc (Fr.refl _ _) _) _ _ (.inl (Nat.le_refl _)); have HG2_w5 : Hid (Bk ((w4.alloc (.cells ZERO3 46)).setRow w4.heap.size (partsL (nodeL ls) 3).toArray) w4.heap.size (partsL (nodeL ls) 3).toArray 46) := Lib.hid (ArrKit.Bk.row HZ_w4.out _); have HF_w5 := Lib.hid (HF_w4.out.then0 hfx); have HD_w5 := Lib.hid (HD_w4.out.later hfx (fun _ _ h => h)); have HR_w5 := Lib.hid (HR_w4.out.later hfx (fun _ _ h => h)); have HG1_w5 := Lib.hid (hfx.keep HG1_w4.out (fun h => h)); clear hfx; generalize ((w4.alloc (.cells ZERO3 46)).setRow w4.heap.size (partsL (nodeL ls) 3).toArray) = w5 at *; generalize w4.heap.size = G2 at *))
  have HFG : Hid (Fr0 w w5) := HF_w5
  go_loopw [11] (fun u wr => ∃ k : Nat, k ≤ 3 ∧ u = .int .i64 k ∧ Bk wr G2 (partsL (nodeL ls) 3).toArray 46 ∧ Fr0 w wr) (fun u _ => 3 - (intOf u).toNat)
  case atStart => exact ⟨0, by omega, rfl, HG2_w5.out, HF_w5.out⟩
  case round =>
    obtain ⟨k, hk, rfl, hgk, hfk⟩ := hrel
    have HGK := Lib.hid hgk
    have HF_wr := Lib.hid hfk
    have HD_wr : Hid (RdV wr (some ⟨b0, o0, none⟩) ls) := Lib.hid (HD_w0.out.later hfk (fun _ _ h => h))
    have HR_wr : Hid (Rd wr a0 l) := Lib.hid (HR_w0.out.later hfk (fun _ _ h => h))
    clear hgk hfk
    by_cases hlt : k < 3
    · have c9 : decide ((k : Int) < 3) = true := decide_eq_true (by omega)
      have hk3 : (k : Int) < 3 := by omega
      have HLT := Lib.hid hlt
      have hvk := el_ok HOK.out k
      have HIK : Hid ((Tryd.prog.info? 26).map (·.size) = some (el ls k).pc.length) := Lib.hid (by rw [info_p, pc_length hvk])
      have HGO : Hid (∀ W : World, W.heap[G2]? = some (.cells (partsL (nodeL ls) 3).toArray 46 (0, 0)) → W.rangeAt G2 (k * 34) (el ls k).pc) := Lib.hid (fun W h j u hj => by
        rw [Bk.cell h]
        exact HGT.out k HLT.out j u hj)
      clear hlt hk
      by_cases hkn' : k < n
      · have hkn : (k : Int) < n := by omega
        have c8 : decide (k < n) = true := decide_eq_true hkn'
        have c7 : decide (n ≤ k) = false := decide_eq_false (by omega)
        have heqk : ∀ W, (Op.equalIn 10000 26 (.agg (el ls k).pc.toArray) (.agg (el ls k).pc.toArray)).run Tryd.prog W = .ok true W := eq_self (el ls k).a (el ls k).b (el ls k).s hvk.len hvk.wa hvk.wb
        obtain ⟨b, o, eb, hr⟩ := HD_wr.out k (by rw [HL.out]; exact hkn')
        simp only [Option.some.injEq, Addr.mk.injEq, and_true] at eb
        obtain ⟨rfl, rfl⟩ := eb
        rw [← el_in] at hr
        obtain ⟨ob, hob⟩ : ∃ ob, wr.heap[b0]? = some ob := ⟨_, Array.getElem?_eq_getElem (World.block_lt_of_cell? wr _ (hr 0 (.int .i64 (el ls k).a) rfl))⟩
        have HBO : Hid (∀ W : World, W.heap[b0]? = some ob → W.rangeAt b0 (o0 + k * 34) (el ls k).pc) := Lib.hid (fun W h j u hj => by
          have := hr j u hj
          simp only [World.cell?, hob, h] at this ⊢
          exact this)
        have H7 : Hid (Held w [(G2, .cells (partsL (nodeL ls) 3).toArray 46 (0, 0)), (b0, ob)] wr) := Lib.hid (Held.cons HGK.out (Held.cons hob (Held.nil HF_wr.out)))
        clear hr hob hvk hkn'
        go_wp2_with fail
        refine wp_region_noPanic ?_
        refine wp_region_held_drew (S := (Held w [(G2, .cells (partsL (nodeL ls) 3).toArray 46 (0, 0)), (b0, ob)])) (by kernel_rfl) (Held.drew H7.out) (fun hHeld0 => ?_)
        change wpAnyH _ _ _ _ _ 27 #[false, false, false, false, false, false, false, false, false, false, false, false, false, false, false, false, false, false, false, false, false, false, false, false, false, false, false] _ _
        refine wpAnyH_take (i := 0) (v := .int .i64 (k : Int)) rfl (by kernel_rfl) (by kernel_rfl) (by kernel_rfl) (fun _ _ _ h => h) (Or.inl ⟨by kernel_rfl, fun w hSw => by first | kernel_rfl | (go_simp; done)⟩) hHeld0 ?_
        simp only [Act.put, List.getElem_toArray, List.getElem_cons_succ, List.getElem_cons_zero, List.setIfInBounds_toArray, List.set_cons_zero, List.set_cons_succ]
        change wpAnyH _ _ _ _ _ 26 #[true, false, false, false, false, false, false, false, false, false, false, false, false, false, false, false, false, false, false, false, false, false, false, false, false, false, false] _ _
        refine wpAnyH_take (i := 1) (v := .slice (some ⟨b0, o0, none⟩) n c) rfl (by kernel_rfl) (by kernel_rfl) (by kernel_rfl) (fun _ _ _ h => h) (Or.inl ⟨by kernel_rfl, fun w hSw => by first | kernel_rfl | (go_simp; done)⟩) hHeld0 ?_
        simp only [Act.put, List.getElem_toArray, List.getElem_cons_succ, List.getElem_cons_zero, List.setIfInBounds_toArray, List.set_cons_zero, List.set_cons_succ]
        change wpAnyH _ _ _ _ _ 25 #[true, true, false, false, false, false, false, false, false, false, false, false, false, false, false, false, false, false, false, false, false, false, false, false, false, false, false] _ _
        refine wpAnyH_take (i := 2) (v := .int .i64 (n : Int)) rfl (by kernel_rfl) (by kernel_rfl) (by kernel_rfl) (fun _ _ _ h => h) (Or.inl ⟨by kernel_rfl, fun w hSw => by first | kernel_rfl | (go_simp; done)⟩) hHeld0 ?_
        simp only [Act.put, List.getElem_toArray, List.getElem_cons_succ, List.getElem_cons_zero, List.setIfInBounds_toArray, List.set_cons_zero, List.set_cons_succ]
        change wpAnyH _ _ _ _ _ 24 #[true, true, true, false, false, false, false, false, false, false, false, false, false, false, false, false, false, false, false, false, false, false, false, false, false, false, false] _ _
        refine wpAnyH_take (i := 3) (v := .bool true) rfl (by kernel_rfl) (by kernel_rfl) (by kernel_rfl) (fun _ _ _ h => h) (Or.inl ⟨by kernel_rfl, fun w hSw => by go_simp <;> (first | exact beq_iff_eq.1 (by assumption) | exact beq_eq_false_iff_ne.1 (by assumption) | omega)⟩) hHeld0 ?_
        simp only [Act.put, List.getElem_toArray, List.getElem_cons_succ, List.getElem_cons_zero, List.setIfInBounds_toArray, List.set_cons_zero, List.set_cons_succ]
        change wpAnyH _ _ _ _ _ 23 #[true, true, true, true, false, false, false, false, false, false, false, false, false, false, false, false, false, false, false, false, false, false, false, false, false, false, false] _ _
        refine wpAnyH_take (i := 4) (v := .bool true) rfl (by kernel_rfl) (by kernel_rfl) (by kernel_rfl) (fun _ _ _ h => h) (Or.inl ⟨by kernel_rfl, fun w hSw => by first | kernel_rfl | (go_simp; done)⟩) hHeld0 ?_
        simp only [Act.put, List.getElem_toArray, List.getElem_cons_succ, List.getElem_cons_zero, List.setIfInBounds_toArray, List.set_cons_zero, List.set_cons_succ]
        change wpAnyH _ _ _ _ _ 22 #[true, true, true, true, true, false, false, false, false, false, false, false, false, false, false, false, false, false, false, false, false, false, false, false, false, false, false] _ _
        refine wpAnyH_take (i := 5) (v := .int .i64 (k : Int)) rfl (by kernel_rfl) (by kernel_rfl) (by kernel_rfl) (fun _ _ _ h => h) (Or.inl ⟨by kernel_rfl, fun w hSw => by first | kernel_rfl | (go_simp; done)⟩) hHeld0 ?_
        simp only [Act.put, List.getElem_toArray, List.getElem_cons_succ, List.getElem_cons_zero, List.setIfInBounds_toArray, List.set_cons_zero, List.set_cons_succ]
        change wpAnyH _ _ _ _ _ 21 #[true, true, true, true, true, true, false, false, false, false, false, false, false, false, false, false, false, false, false, false, false, false, false, false, false, false, false] _ _
        refine wpAnyH_take (i := 6) (v := .pointer (some ⟨G2, k * 34, none⟩)) rfl (by kernel_rfl) (by kernel_rfl) (by kernel_rfl) (fun _ _ _ h => h) (Or.inl ⟨by kernel_rfl, fun w hSw => by have h3 := hk3; go_simp <;> omega⟩) hHeld0 ?_
        simp only [Act.put, List.getElem_toArray, List.getElem_cons_succ, List.getElem_cons_zero, List.setIfInBounds_toArray, List.set_cons_zero, List.set_cons_succ]
        change wpAnyH _ _ _ _ _ 20 #[true, true, true, true, true, true, true, false, false, false, false, false, false, false, false, false, false, false, false, false, false, false, false, false, false, false, false] _ _
        refine wpAnyH_take (i := 7) (v := .agg (el ls k).pc.toArray) rfl (by kernel_rfl) (by kernel_rfl) (by kernel_rfl) (fun _ _ _ h => h) (yieldsIf_load_mid (by kernel_rfl) 26 _ rfl G2 (k * 34) rfl (el ls k).pc _ (fun W h => HGO.out W (Held.a0 h)) Tryd.underlying26 rfl HIK.out) hHeld0 ?_
        simp only [Act.put, List.getElem_toArray, List.getElem_cons_succ, List.getElem_cons_zero, List.setIfInBounds_toArray, List.set_cons_zero, List.set_cons_succ]
        change wpAnyH _ _ _ _ _ 19 #[true, true, true, true, true, true, true, true, false, false, false, false, false, false, false, false, false, false, false, false, false, false, false, false, false, false, false] _ _
        refine wpAnyH_take (i := 8) (v := .slice (some ⟨b0, o0, none⟩) n c) rfl (by kernel_rfl) (by kernel_rfl) (by kernel_rfl) (fun _ _ _ h => h) (Or.inl ⟨by kernel_rfl, fun w hSw => by first | kernel_rfl | (go_simp; done)⟩) hHeld0 ?_
        simp only [Act.put, List.getElem_toArray, List.getElem_cons_succ, List.getElem_cons_zero, List.setIfInBounds_toArray, List.set_cons_zero, List.set_cons_succ]
        change wpAnyH _ _ _ _ _ 18 #[true, true, true, true, true, true, true, true, true, false, false, false, false, false, false, false, false, false, false, false, false, false, false, false, false, false, false] _ _
        refine wpAnyH_take (i := 9) (v := .int .i64 (k : Int)) rfl (by kernel_rfl) (by kernel_rfl) (by kernel_rfl) (fun _ _ _ h => h) (Or.inl ⟨by kernel_rfl, fun w hSw => by first | kernel_rfl | (go_simp; done)⟩) hHeld0 ?_
        simp only [Act.put, List.getElem_toArray, List.getElem_cons_succ, List.getElem_cons_zero, List.setIfInBounds_toArray, List.set_cons_zero, List.set_cons_succ]
        change wpAnyH _ _ _ _ _ 17 #[true, true, true, true, true, true, true, true, true, true, false, false, false, false, false, false, false, false, false, false, false, false, false, false, false, false, false] _ _
        refine wpAnyH_take (i := 10) (v := .pointer (some ⟨b0, o0 + k * 34, none⟩)) rfl (by kernel_rfl) (by kernel_rfl) (by kernel_rfl) (fun _ _ _ h => h) (Or.inl ⟨by kernel_rfl, fun w hSw => by have h3 := hkn; go_simp <;> omega⟩) hHeld0 ?_
        simp only [Act.put, List.getElem_toArray, List.getElem_cons_succ, List.getElem_cons_zero, List.setIfInBounds_toArray, List.set_cons_zero, List.set_cons_succ]
        change wpAnyH _ _ _ _ _ 16 #[true, true, true, true, true, true, true, true, true, true, true, false, false, false, false, false, false, false, false, false, false, false, false, false, false, false, false] _ _
        refine wpAnyH_take (i := 11) (v := .agg (el ls k).pc.toArray) rfl (by kernel_rfl) (by kernel_rfl) (by kernel_rfl) (fun _ _ _ h => h) (yieldsIf_load_mid (by kernel_rfl) 26 _ rfl b0 (o0 + k * 34) rfl (el ls k).pc _ (fun W h => HBO.out W (Held.a0 (Held.tl h))) Tryd.underlying26 rfl HIK.out) hHeld0 ?_
        simp only [Act.put, List.getElem_toArray, List.getElem_cons_succ, List.getElem_cons_zero, List.setIfInBounds_toArray, List.set_cons_zero, List.set_cons_succ]
        change wpAnyH _ _ _ _ _ 15 #[true, true, true, true, true, true, true, true, true, true, true, true, false, false, false, false, false, false, false, false, false, false, false, false, false, false, false] _ _
        refine wpAnyH_take (i := 12) (v := .bool false) rfl (by kernel_rfl) (by kernel_rfl) (by kernel_rfl) (fun _ _ _ h => h) (Or.inl ⟨by kernel_rfl, fun w hSw => run_neq_op (b := true) rfl rfl rfl guard_p heqk w⟩) hHeld0 ?_
        simp only [Act.put, List.getElem_toArray, List.getElem_cons_succ, List.getElem_cons_zero, List.setIfInBounds_toArray, List.set_cons_zero, List.set_cons_succ]
        change wpAnyH _ _ _ _ _ 14 #[true, true, true, true, true, true, true, true, true, true, true, true, true, false, false, false, false, false, false, false, false, false, false, false, false, false, false] _ _
        refine wpAnyH_take (i := 13) (v := .bool false) rfl (by kernel_rfl) (by kernel_rfl) (by kernel_rfl) (fun _ _ _ h => h) (Or.inl ⟨by kernel_rfl, fun w hSw => by first | kernel_rfl | (go_simp; done)⟩) hHeld0 ?_
        simp only [Act.put, List.getElem_toArray, List.getElem_cons_succ, List.getElem_cons_zero, List.setIfInBounds_toArray, List.set_cons_zero, List.set_cons_succ]
        change wpAnyH _ _ _ _ _ 13 #[true, true, true, true, true, true, true, true, true, true, true, true, true, true, false, false, false, false, false, false, false, false, false, false, false, false, false] _ _
        refine wpAnyH_take (i := 14) (v := .bool false) rfl (by kernel_rfl) (by kernel_rfl) (by kernel_rfl) (fun _ _ _ h => h) (Or.inl ⟨by kernel_rfl, fun w hSw => by first | kernel_rfl | (go_simp; done)⟩) hHeld0 ?_
        simp only [Act.put, List.getElem_toArray, List.getElem_cons_succ, List.getElem_cons_zero, List.setIfInBounds_toArray, List.set_cons_zero, List.set_cons_succ]
        change wpAnyH _ _ _ _ _ 12 #[true, true, true, true, true, true, true, true, true, true, true, true, true, true, true, false, false, false, false, false, false, false, false, false, false, false, false] _ _
        refine wpAnyH_take (i := 15) (v := .int .i64 (k : Int)) rfl (by kernel_rfl) (by kernel_rfl) (by kernel_rfl) (fun _ _ _ h => h) (Or.inl ⟨by kernel_rfl, fun w hSw => by first | kernel_rfl | (go_simp; done)⟩) hHeld0 ?_
        simp only [Act.put, List.getElem_toArray, List.getElem_cons_succ, List.getElem_cons_zero, List.setIfInBounds_toArray, List.set_cons_zero, List.set_cons_succ]
        change wpAnyH _ _ _ _ _ 11 #[true, true, true, true, true, true, true, true, true, true, true, true, true, true, true, true, false, false, false, false, false, false, false, false, false, false, false] _ _
        refine wpAnyH_take (i := 16) (v := .slice (some ⟨b0, o0, none⟩) n c) rfl (by kernel_rfl) (by kernel_rfl) (by kernel_rfl) (fun _ _ _ h => h) (Or.inl ⟨by kernel_rfl, fun w hSw => by first | kernel_rfl | (go_simp; done)⟩) hHeld0 ?_
        simp only [Act.put, List.getElem_toArray, List.getElem_cons_succ, List.getElem_cons_zero, List.setIfInBounds_toArray, List.set_cons_zero, List.set_cons_succ]
        change wpAnyH _ _ _ _ _ 10 #[true, true, true, true, true, true, true, true, true, true, true, true, true, true, true, true, true, false, false, false, false, false, false, false, false, false, false] _ _
        refine wpAnyH_take (i := 17) (v := .int .i64 (n : Int)) rfl (by kernel_rfl) (by kernel_rfl) (by kernel_rfl) (fun _ _ _ h => h) (Or.inl ⟨by kernel_rfl, fun w hSw => by first | kernel_rfl | (go_simp; done)⟩) hHeld0 ?_
        simp only [Act.put, List.getElem_toArray, List.getElem_cons_succ, List.getElem_cons_zero, List.setIfInBounds_toArray, List.set_cons_zero, List.set_cons_succ]
        change wpAnyH _ _ _ _ _ 9 #[true, true, true, true, true, true, true, true, true, true, true, true, true, true, true, true, true, true, false, false, false, false, false, false, false, false, false] _ _
        refine wpAnyH_take (i := 18) (v := .bool false) rfl (by kernel_rfl) (by kernel_rfl) (by kernel_rfl) (fun _ _ _ h => h) (Or.inl ⟨by kernel_rfl, fun w hSw => by go_simp <;> (first | exact beq_iff_eq.1 (by assumption) | exact beq_eq_false_iff_ne.1 (by assumption) | omega)⟩) hHeld0 ?_
        simp only [Act.put, List.getElem_toArray, List.getElem_cons_succ, List.getElem_cons_zero, List.setIfInBounds_toArray, List.set_cons_zero, List.set_cons_succ]
        change wpAnyH _ _ _ _ _ 8 #[true, true, true, true, true, true, true, true, true, true, true, true, true, true, true, true, true, true, true, false, false, false, false, false, false, false, false] _ _
        refine wpAnyH_take (i := 19) (v := .bool false) rfl (by kernel_rfl) (by kernel_rfl) (by kernel_rfl) (fun _ _ _ h => h) (Or.inl ⟨by kernel_rfl, fun w hSw => by first | kernel_rfl | (go_simp; done)⟩) hHeld0 ?_
        simp only [Act.put, List.getElem_toArray, List.getElem_cons_succ, List.getElem_cons_zero, List.setIfInBounds_toArray, List.set_cons_zero, List.set_cons_succ]
        change wpAnyH _ _ _ _ _ 7 #[true, true, true, true, true, true, true, true, true, true, true, true, true, true, true, true, true, true, true, true, false, false, false, false, false, false, false] _ _
        refine wpAnyH_take (i := 20) (v := undef) rfl (by kernel_rfl) (by kernel_rfl) (by kernel_rfl) (fun _ _ _ h => h) (Or.inr ⟨by kernel_rfl, rfl⟩) hHeld0 ?_
        simp only [Act.put, List.getElem_toArray, List.getElem_cons_succ, List.getElem_cons_zero, List.setIfInBounds_toArray, List.set_cons_zero, List.set_cons_succ]
        change wpAnyH _ _ _ _ _ 6 #[true, true, true, true, true, true, true, true, true, true, true, true, true, true, true, true, true, true, true, true, true, false, false, false, false, false, false] _ _
        refine wpAnyH_take (i := 21) (v := undef) rfl (by kernel_rfl) (by kernel_rfl) (by kernel_rfl) (fun _ _ _ h => h) (Or.inr ⟨by kernel_rfl, rfl⟩) hHeld0 ?_
        simp only [Act.put, List.getElem_toArray, List.getElem_cons_succ, List.getElem_cons_zero, List.setIfInBounds_toArray, List.set_cons_zero, List.set_cons_succ]
        change wpAnyH _ _ _ _ _ 5 #[true, true, true, true, true, true, true, true, true, true, true, true, true, true, true, true, true, true, true, true, true, true, false, false, false, false, false] _ _
        refine wpAnyH_take (i := 22) (v := undef) rfl (by kernel_rfl) (by kernel_rfl) (by kernel_rfl) (fun _ _ _ h => h) (Or.inr ⟨by kernel_rfl, rfl⟩) hHeld0 ?_
        simp only [Act.put, List.getElem_toArray, List.getElem_cons_succ, List.getElem_cons_zero, List.setIfInBounds_toArray, List.set_cons_zero, List.set_cons_succ]
        change wpAnyH _ _ _ _ _ 4 #[true, true, true, true, true, true, true, true, true, true, true, true, true, true, true, true, true, true, true, true, true, true, true, false, false, false, false] _ _
        refine wpAnyH_take (i := 23) (v := undef) rfl (by kernel_rfl) (by kernel_rfl) (by kernel_rfl) (fun _ _ _ h => h) (Or.inr ⟨by kernel_rfl, rfl⟩) hHeld0 ?_
        simp only [Act.put, List.getElem_toArray, List.getElem_cons_succ, List.getElem_cons_zero, List.setIfInBounds_toArray, List.set_cons_zero, List.set_cons_succ]
        change wpAnyH _ _ _ _ _ 3 #[true, true, true, true, true, true, true, true, true, true, true, true, true, true, true, true, true, true, true, true, true, true, true, true, false, false, false] _ _
        refine wpAnyH_take (i := 24) (v := undef) rfl (by kernel_rfl) (by kernel_rfl) (by kernel_rfl) (fun _ _ _ h => h) (Or.inr ⟨by kernel_rfl, rfl⟩) hHeld0 ?_
        simp only [Act.put, List.getElem_toArray, List.getElem_cons_succ, List.getElem_cons_zero, List.setIfInBounds_toArray, List.set_cons_zero, List.set_cons_succ]
        change wpAnyH _ _ _ _ _ 2 #[true, true, true, true, true, true, true, true, true, true, true, true, true, true, true, true, true, true, true, true, true, true, true, true, true, false, false] _ _
        refine wpAnyH_take (i := 25) (v := .bool false) rfl (by kernel_rfl) (by kernel_rfl) (by kernel_rfl) (fun _ _ _ h => h) (Or.inl ⟨by kernel_rfl, fun w hSw => by first | kernel_rfl | (go_simp; done)⟩) hHeld0 ?_
        simp only [Act.put, List.getElem_toArray, List.getElem_cons_succ, List.getElem_cons_zero, List.setIfInBounds_toArray, List.set_cons_zero, List.set_cons_succ]
        change wpAnyH _ _ _ _ _ 1 #[true, true, true, true, true, true, true, true, true, true, true, true, true, true, true, true, true, true, true, true, true, true, true, true, true, true, false] _ _
        refine wpAnyH_take (i := 26) (v := .bool false) rfl (by kernel_rfl) (by kernel_rfl) (by kernel_rfl) (fun _ _ _ h => h) (Or.inl ⟨by kernel_rfl, fun w hSw => by first | kernel_rfl | (go_simp; done)⟩) hHeld0 ?_
        simp only [Act.put, List.getElem_toArray, List.getElem_cons_succ, List.getElem_cons_zero, List.setIfInBounds_toArray, List.set_cons_zero, List.set_cons_succ]
        change wpAnyH _ _ _ _ _ 0 #[true, true, true, true, true, true, true, true, true, true, true, true, true, true, true, true, true, true, true, true, true, true, true, true, true, true, true] _ _
        refine wpAnyH_done (by kernel_rfl) ?_ _
        refine NoPanic.normal ?_
        have HFIN := Lib.hid (Held.f hHeld0)
        have HEND := Lib.hid hHeld0
        clear hHeld0
        have HG8 := Lib.hid (Held.a0 HEND.out)
        clear c8 c7 heqk
        go_wp2
        exact ⟨⟨k + 1, by have := HLT.out; omega, by go_num, HG8.out, HFIN.out⟩, by have := HLT.out; simp [intOf]; omega⟩
      · have c8 : decide (k < n) = false := decide_eq_false hkn'
        have c7 : decide (n ≤ k) = true := decide_eq_true (by omega)
        have hel : el ls k = hol := el_out (by rw [HL.out]; omega)
        have heqk : ∀ W, (Op.equalIn 10000 26 (.agg (el ls k).pc.toArray) (.agg HOLE)).run Tryd.prog W = .ok true W := by rw [hel]; exact eq_self (-1) (-1) Z Z_len (by decide) (by decide)
        have H7 : Hid (Held w [(G2, .cells (partsL (nodeL ls) 3).toArray 46 (0, 0))] wr) := Lib.hid (Held.cons HGK.out (Held.nil HF_wr.out))
        clear hvk hel
        go_wp2_with fail
        refine wp_region_noPanic ?_
        refine wp_region_held_drew (S := (Held w [(G2, .cells (partsL (nodeL ls) 3).toArray 46 (0, 0))])) (by kernel_rfl) (Held.drew H7.out) (fun hHeld0 => ?_)
        change wpAnyH _ _ _ _ _ 27 #[false, false, false, false, false, false, false, false, false, false, false, false, false, false, false, false, false, false, false, false, false, false, false, false, false, false, false] _ _
        refine wpAnyH_take (i := 0) (v := .int .i64 (k : Int)) rfl (by kernel_rfl) (by kernel_rfl) (by kernel_rfl) (fun _ _ _ h => h) (Or.inl ⟨by kernel_rfl, fun w hSw => by first | kernel_rfl | (go_simp; done)⟩) hHeld0 ?_
        simp only [Act.put, List.getElem_toArray, List.getElem_cons_succ, List.getElem_cons_zero, List.setIfInBounds_toArray, List.set_cons_zero, List.set_cons_succ]
        change wpAnyH _ _ _ _ _ 26 #[true, false, false, false, false, false, false, false, false, false, false, false, false, false, false, false, false, false, false, false, false, false, false, false, false, false, false] _ _
        refine wpAnyH_take (i := 1) (v := .slice (some ⟨b0, o0, none⟩) n c) rfl (by kernel_rfl) (by kernel_rfl) (by kernel_rfl) (fun _ _ _ h => h) (Or.inl ⟨by kernel_rfl, fun w hSw => by first | kernel_rfl | (go_simp; done)⟩) hHeld0 ?_
        simp only [Act.put, List.getElem_toArray, List.getElem_cons_succ, List.getElem_cons_zero, List.setIfInBounds_toArray, List.set_cons_zero, List.set_cons_succ]
        change wpAnyH _ _ _ _ _ 25 #[true, true, false, false, false, false, false, false, false, false, false, false, false, false, false, false, false, false, false, false, false, false, false, false, false, false, false] _ _
        refine wpAnyH_take (i := 2) (v := .int .i64 (n : Int)) rfl (by kernel_rfl) (by kernel_rfl) (by kernel_rfl) (fun _ _ _ h => h) (Or.inl ⟨by kernel_rfl, fun w hSw => by first | kernel_rfl | (go_simp; done)⟩) hHeld0 ?_
        simp only [Act.put, List.getElem_toArray, List.getElem_cons_succ, List.getElem_cons_zero, List.setIfInBounds_toArray, List.set_cons_zero, List.set_cons_succ]
        change wpAnyH _ _ _ _ _ 24 #[true, true, true, false, false, false, false, false, false, false, false, false, false, false, false, false, false, false, false, false, false, false, false, false, false, false, false] _ _
        refine wpAnyH_take (i := 3) (v := .bool false) rfl (by kernel_rfl) (by kernel_rfl) (by kernel_rfl) (fun _ _ _ h => h) (Or.inl ⟨by kernel_rfl, fun w hSw => by go_simp <;> (first | exact beq_iff_eq.1 (by assumption) | exact beq_eq_false_iff_ne.1 (by assumption) | omega)⟩) hHeld0 ?_
        simp only [Act.put, List.getElem_toArray, List.getElem_cons_succ, List.getElem_cons_zero, List.setIfInBounds_toArray, List.set_cons_zero, List.set_cons_succ]
        change wpAnyH _ _ _ _ _ 23 #[true, true, true, true, false, false, false, false, false, false, false, false, false, false, false, false, false, false, false, false, false, false, false, false, false, false, false] _ _
        refine wpAnyH_take (i := 4) (v := .bool false) rfl (by kernel_rfl) (by kernel_rfl) (by kernel_rfl) (fun _ _ _ h => h) (Or.inl ⟨by kernel_rfl, fun w hSw => by first | kernel_rfl | (go_simp; done)⟩) hHeld0 ?_
        simp only [Act.put, List.getElem_toArray, List.getElem_cons_succ, List.getElem_cons_zero, List.setIfInBounds_toArray, List.set_cons_zero, List.set_cons_succ]
        change wpAnyH _ _ _ _ _ 22 #[true, true, true, true, true, false, false, false, false, false, false, false, false, false, false, false, false, false, false, false, false, false, false, false, false, false, false] _ _
        refine wpAnyH_take (i := 5) (v := undef) rfl (by kernel_rfl) (by kernel_rfl) (by kernel_rfl) (fun _ _ _ h => h) (Or.inr ⟨by kernel_rfl, rfl⟩) hHeld0 ?_
        simp only [Act.put, List.getElem_toArray, List.getElem_cons_succ, List.getElem_cons_zero, List.setIfInBounds_toArray, List.set_cons_zero, List.set_cons_succ]
        change wpAnyH _ _ _ _ _ 21 #[true, true, true, true, true, true, false, false, false, false, false, false, false, false, false, false, false, false, false, false, false, false, false, false, false, false, false] _ _
        refine wpAnyH_take (i := 6) (v := undef) rfl (by kernel_rfl) (by kernel_rfl) (by kernel_rfl) (fun _ _ _ h => h) (Or.inr ⟨by kernel_rfl, rfl⟩) hHeld0 ?_
        simp only [Act.put, List.getElem_toArray, List.getElem_cons_succ, List.getElem_cons_zero, List.setIfInBounds_toArray, List.set_cons_zero, List.set_cons_succ]
        change wpAnyH _ _ _ _ _ 20 #[true, true, true, true, true, true, true, false, false, false, false, false, false, false, false, false, false, false, false, false, false, false, false, false, false, false, false] _ _
        refine wpAnyH_take (i := 7) (v := undef) rfl (by kernel_rfl) (by kernel_rfl) (by kernel_rfl) (fun _ _ _ h => h) (Or.inr ⟨by kernel_rfl, rfl⟩) hHeld0 ?_
        simp only [Act.put, List.getElem_toArray, List.getElem_cons_succ, List.getElem_cons_zero, List.setIfInBounds_toArray, List.set_cons_zero, List.set_cons_succ]
        change wpAnyH _ _ _ _ _ 19 #[true, true, true, true, true, true, true, true, false, false, false, false, false, false, false, false, false, false, false, false, false, false, false, false, false, false, false] _ _
        refine wpAnyH_take (i := 8) (v := undef) rfl (by kernel_rfl) (by kernel_rfl) (by kernel_rfl) (fun _ _ _ h => h) (Or.inr ⟨by kernel_rfl, rfl⟩) hHeld0 ?_
        simp only [Act.put, List.getElem_toArray, List.getElem_cons_succ, List.getElem_cons_zero, List.setIfInBounds_toArray, List.set_cons_zero, List.set_cons_succ]
        change wpAnyH _ _ _ _ _ 18 #[true, true, true, true, true, true, true, true, true, false, false, false, false, false, false, false, false, false, false, false, false, false, false, false, false, false, false] _ _
        refine wpAnyH_take (i := 9) (v := undef) rfl (by kernel_rfl) (by kernel_rfl) (by kernel_rfl) (fun _ _ _ h => h) (Or.inr ⟨by kernel_rfl, rfl⟩) hHeld0 ?_
        simp only [Act.put, List.getElem_toArray, List.getElem_cons_succ, List.getElem_cons_zero, List.setIfInBounds_toArray, List.set_cons_zero, List.set_cons_succ]
        change wpAnyH _ _ _ _ _ 17 #[true, true, true, true, true, true, true, true, true, true, false, false, false, false, false, false, false, false, false, false, false, false, false, false, false, false, false] _ _
        refine wpAnyH_take (i := 10) (v := undef) rfl (by kernel_rfl) (by kernel_rfl) (by kernel_rfl) (fun _ _ _ h => h) (Or.inr ⟨by kernel_rfl, rfl⟩) hHeld0 ?_
        simp only [Act.put, List.getElem_toArray, List.getElem_cons_succ, List.getElem_cons_zero, List.setIfInBounds_toArray, List.set_cons_zero, List.set_cons_succ]
        change wpAnyH _ _ _ _ _ 16 #[true, true, true, true, true, true, true, true, true, true, true, false, false, false, false, false, false, false, false, false, false, false, false, false, false, false, false] _ _
        refine wpAnyH_take (i := 11) (v := undef) rfl (by kernel_rfl) (by kernel_rfl) (by kernel_rfl) (fun _ _ _ h => h) (Or.inr ⟨by kernel_rfl, rfl⟩) hHeld0 ?_
        simp only [Act.put, List.getElem_toArray, List.getElem_cons_succ, List.getElem_cons_zero, List.setIfInBounds_toArray, List.set_cons_zero, List.set_cons_succ]
        change wpAnyH _ _ _ _ _ 15 #[true, true, true, true, true, true, true, true, true, true, true, true, false, false, false, false, false, false, false, false, false, false, false, false, false, false, false] _ _
        refine wpAnyH_take (i := 12) (v := undef) rfl (by kernel_rfl) (by kernel_rfl) (by kernel_rfl) (fun _ _ _ h => h) (Or.inr ⟨by kernel_rfl, rfl⟩) hHeld0 ?_
        simp only [Act.put, List.getElem_toArray, List.getElem_cons_succ, List.getElem_cons_zero, List.setIfInBounds_toArray, List.set_cons_zero, List.set_cons_succ]
        change wpAnyH _ _ _ _ _ 14 #[true, true, true, true, true, true, true, true, true, true, true, true, true, false, false, false, false, false, false, false, false, false, false, false, false, false, false] _ _
        refine wpAnyH_take (i := 13) (v := .bool false) rfl (by kernel_rfl) (by kernel_rfl) (by kernel_rfl) (fun _ _ _ h => h) (Or.inl ⟨by kernel_rfl, fun w hSw => by first | kernel_rfl | (go_simp; done)⟩) hHeld0 ?_
        simp only [Act.put, List.getElem_toArray, List.getElem_cons_succ, List.getElem_cons_zero, List.setIfInBounds_toArray, List.set_cons_zero, List.set_cons_succ]
        change wpAnyH _ _ _ _ _ 13 #[true, true, true, true, true, true, true, true, true, true, true, true, true, true, false, false, false, false, false, false, false, false, false, false, false, false, false] _ _
        refine wpAnyH_take (i := 14) (v := .bool false) rfl (by kernel_rfl) (by kernel_rfl) (by kernel_rfl) (fun _ _ _ h => h) (Or.inl ⟨by kernel_rfl, fun w hSw => by first | kernel_rfl | (go_simp; done)⟩) hHeld0 ?_
        simp only [Act.put, List.getElem_toArray, List.getElem_cons_succ, List.getElem_cons_zero, List.setIfInBounds_toArray, List.set_cons_zero, List.set_cons_succ]
        change wpAnyH _ _ _ _ _ 12 #[true, true, true, true, true, true, true, true, true, true, true, true, true, true, true, false, false, false, false, false, false, false, false, false, false, false, false] _ _
        refine wpAnyH_take (i := 15) (v := .int .i64 (k : Int)) rfl (by kernel_rfl) (by kernel_rfl) (by kernel_rfl) (fun _ _ _ h => h) (Or.inl ⟨by kernel_rfl, fun w hSw => by first | kernel_rfl | (go_simp; done)⟩) hHeld0 ?_
        simp only [Act.put, List.getElem_toArray, List.getElem_cons_succ, List.getElem_cons_zero, List.setIfInBounds_toArray, List.set_cons_zero, List.set_cons_succ]
        change wpAnyH _ _ _ _ _ 11 #[true, true, true, true, true, true, true, true, true, true, true, true, true, true, true, true, false, false, false, false, false, false, false, false, false, false, false] _ _
        refine wpAnyH_take (i := 16) (v := .slice (some ⟨b0, o0, none⟩) n c) rfl (by kernel_rfl) (by kernel_rfl) (by kernel_rfl) (fun _ _ _ h => h) (Or.inl ⟨by kernel_rfl, fun w hSw => by first | kernel_rfl | (go_simp; done)⟩) hHeld0 ?_
        simp only [Act.put, List.getElem_toArray, List.getElem_cons_succ, List.getElem_cons_zero, List.setIfInBounds_toArray, List.set_cons_zero, List.set_cons_succ]
        change wpAnyH _ _ _ _ _ 10 #[true, true, true, true, true, true, true, true, true, true, true, true, true, true, true, true, true, false, false, false, false, false, false, false, false, false, false] _ _
        refine wpAnyH_take (i := 17) (v := .int .i64 (n : Int)) rfl (by kernel_rfl) (by kernel_rfl) (by kernel_rfl) (fun _ _ _ h => h) (Or.inl ⟨by kernel_rfl, fun w hSw => by first | kernel_rfl | (go_simp; done)⟩) hHeld0 ?_
        simp only [Act.put, List.getElem_toArray, List.getElem_cons_succ, List.getElem_cons_zero, List.setIfInBounds_toArray, List.set_cons_zero, List.set_cons_succ]
        change wpAnyH _ _ _ _ _ 9 #[true, true, true, true, true, true, true, true, true, true, true, true, true, true, true, true, true, true, false, false, false, false, false, false, false, false, false] _ _
        refine wpAnyH_take (i := 18) (v := .bool true) rfl (by kernel_rfl) (by kernel_rfl) (by kernel_rfl) (fun _ _ _ h => h) (Or.inl ⟨by kernel_rfl, fun w hSw => by go_simp <;> (first | exact beq_iff_eq.1 (by assumption) | exact beq_eq_false_iff_ne.1 (by assumption) | omega)⟩) hHeld0 ?_
        simp only [Act.put, List.getElem_toArray, List.getElem_cons_succ, List.getElem_cons_zero, List.setIfInBounds_toArray, List.set_cons_zero, List.set_cons_succ]
        change wpAnyH _ _ _ _ _ 8 #[true, true, true, true, true, true, true, true, true, true, true, true, true, true, true, true, true, true, true, false, false, false, false, false, false, false, false] _ _
        refine wpAnyH_take (i := 19) (v := .bool true) rfl (by kernel_rfl) (by kernel_rfl) (by kernel_rfl) (fun _ _ _ h => h) (Or.inl ⟨by kernel_rfl, fun w hSw => by first | kernel_rfl | (go_simp; done)⟩) hHeld0 ?_
        simp only [Act.put, List.getElem_toArray, List.getElem_cons_succ, List.getElem_cons_zero, List.setIfInBounds_toArray, List.set_cons_zero, List.set_cons_succ]
        change wpAnyH _ _ _ _ _ 7 #[true, true, true, true, true, true, true, true, true, true, true, true, true, true, true, true, true, true, true, true, false, false, false, false, false, false, false] _ _
        refine wpAnyH_take (i := 20) (v := .int .i64 (k : Int)) rfl (by kernel_rfl) (by kernel_rfl) (by kernel_rfl) (fun _ _ _ h => h) (Or.inl ⟨by kernel_rfl, fun w hSw => by first | kernel_rfl | (go_simp; done)⟩) hHeld0 ?_
        simp only [Act.put, List.getElem_toArray, List.getElem_cons_succ, List.getElem_cons_zero, List.setIfInBounds_toArray, List.set_cons_zero, List.set_cons_succ]
        change wpAnyH _ _ _ _ _ 6 #[true, true, true, true, true, true, true, true, true, true, true, true, true, true, true, true, true, true, true, true, true, false, false, false, false, false, false] _ _
        refine wpAnyH_take (i := 21) (v := .pointer (some ⟨G2, k * 34, none⟩)) rfl (by kernel_rfl) (by kernel_rfl) (by kernel_rfl) (fun _ _ _ h => h) (Or.inl ⟨by kernel_rfl, fun w hSw => by have h3 := hk3; go_simp <;> omega⟩) hHeld0 ?_
        simp only [Act.put, List.getElem_toArray, List.getElem_cons_succ, List.getElem_cons_zero, List.setIfInBounds_toArray, List.set_cons_zero, List.set_cons_succ]
        change wpAnyH _ _ _ _ _ 5 #[true, true, true, true, true, true, true, true, true, true, true, true, true, true, true, true, true, true, true, true, true, true, false, false, false, false, false] _ _
        refine wpAnyH_take (i := 22) (v := .agg (el ls k).pc.toArray) rfl (by kernel_rfl) (by kernel_rfl) (by kernel_rfl) (fun _ _ _ h => h) (yieldsIf_load_mid (by kernel_rfl) 26 _ rfl G2 (k * 34) rfl (el ls k).pc _ (fun W h => HGO.out W (Held.a0 h)) Tryd.underlying26 rfl HIK.out) hHeld0 ?_
        simp only [Act.put, List.getElem_toArray, List.getElem_cons_succ, List.getElem_cons_zero, List.setIfInBounds_toArray, List.set_cons_zero, List.set_cons_succ]
        change wpAnyH _ _ _ _ _ 4 #[true, true, true, true, true, true, true, true, true, true, true, true, true, true, true, true, true, true, true, true, true, true, true, false, false, false, false] _ _
        refine wpAnyH_ready (rs := [23]) (by kernel_rfl) (by simp) ?_
        refine AllReadyH.cons rfl (fun K hK => ?_) AllReadyH.nil
        simp only [List.getElem_toArray, List.getElem_cons_succ, List.getElem_cons_zero]
        refine (if_pos (by kernel_rfl)).mpr ?_
        go_wp2_with fail
        refine (rhole_calls _).mono ?_
        rintro e wx0 ⟨rfl, hfx0⟩
        dsimp only
        refine hK.out _ _ (Held.keep hfx0 hHeld0) (fun hHeld1 => ?_)
        clear hK K hHeld0
        change wpAnyH _ _ _ _ _ 3 #[true, true, true, true, true, true, true, true, true, true, true, true, true, true, true, true, true, true, true, true, true, true, true, true, false, false, false] _ _
        refine wpAnyH_take (i := 24) (v := .bool false) rfl (by kernel_rfl) (by kernel_rfl) (by kernel_rfl) (fun _ _ _ h => h) (Or.inl ⟨by kernel_rfl, fun w hSw => run_neq_op (b := true) rfl rfl rfl guard_p heqk w⟩) hHeld1 ?_
        simp only [Act.put, List.getElem_toArray, List.getElem_cons_succ, List.getElem_cons_zero, List.setIfInBounds_toArray, List.set_cons_zero, List.set_cons_succ]
        change wpAnyH _ _ _ _ _ 2 #[true, true, true, true, true, true, true, true, true, true, true, true, true, true, true, true, true, true, true, true, true, true, true, true, true, false, false] _ _
        refine wpAnyH_take (i := 25) (v := .bool false) rfl (by kernel_rfl) (by kernel_rfl) (by kernel_rfl) (fun _ _ _ h => h) (Or.inl ⟨by kernel_rfl, fun w hSw => by first | kernel_rfl | (go_simp; done)⟩) hHeld1 ?_
        simp only [Act.put, List.getElem_toArray, List.getElem_cons_succ, List.getElem_cons_zero, List.setIfInBounds_toArray, List.set_cons_zero, List.set_cons_succ]
        change wpAnyH _ _ _ _ _ 1 #[true, true, true, true, true, true, true, true, true, true, true, true, true, true, true, true, true, true, true, true, true, true, true, true, true, true, false] _ _
        refine wpAnyH_take (i := 26) (v := .bool false) rfl (by kernel_rfl) (by kernel_rfl) (by kernel_rfl) (fun _ _ _ h => h) (Or.inl ⟨by kernel_rfl, fun w hSw => by first | kernel_rfl | (go_simp; done)⟩) hHeld1 ?_
        simp only [Act.put, List.getElem_toArray, List.getElem_cons_succ, List.getElem_cons_zero, List.setIfInBounds_toArray, List.set_cons_zero, List.set_cons_succ]
        change wpAnyH _ _ _ _ _ 0 #[true, true, true, true, true, true, true, true, true, true, true, true, true, true, true, true, true, true, true, true, true, true, true, true, true, true, true] _ _
        refine wpAnyH_done (by kernel_rfl) ?_ _
        refine NoPanic.normal ?_
        have HFIN := Lib.hid (Held.f hHeld1)
        have HEND := Lib.hid hHeld1
        clear hHeld1
        have HG8 := Lib.hid (Held.a0 HEND.out)
        clear c8 c7 heqk
        go_wp2
        exact ⟨⟨k + 1, by have := HLT.out; omega, by go_num, HG8.out, HFIN.out⟩, by have := HLT.out; simp [intOf]; omega⟩
    · have c9 : decide ((k : Int) < 3) = false := decide_eq_false (by omega)
      clear hlt hk
      go_wp2_with fail
      refine (HCP.out _ HR_wr.out).mono ?_
      rintro e v1 ⟨g, cap, cur, rfl, hge, hown, hf⟩
      have HF_v1 := Lib.hid (HF_wr.out.then0 hf)
      have HD_v1 := Lib.hid (HD_wr.out.later hf (fun _ _ h => h))
      have HR_v1 := Lib.hid (HR_wr.out.later hf (fun _ _ h => h))
      have HO_v1 := Lib.hid hown
      have HGE : Hid (w.heap.size ≤ g) := Lib.hid (Nat.le_trans HF_wr.out.size hge)
      clear hf hown hge
      go_wp2_with (first | (refine wpList_load_mid rfl 26 _ rfl b0 o0 rfl (el ls 0).pc _ (HRG.out _ HD_v1.out) Tryd.underlying26 rfl HIV.out ?_) | (go_at_call 23; (with_reducible refine (HPU.out _ g cap cur HO_v1.out).mono ?_); rintro e v2 ⟨rfl, ⟨cur2, ho2⟩, hf2⟩; have HO_v2 := Lib.hid ho2; have HF_v2 : Hid (Fr0 w v2) := Lib.hid (HF_v1.out.then hf2 (fun i hi e => by have := HGE.out; omega)); have HD_v2 : Hid (RdV v2 (some ⟨b0, o0, none⟩) ls) := Lib.hid (RdV.past HD_w0.out HD_v1.out hf2 (fun b hb e => by have := HGE.out; omega)); have HR_v2 : Hid (Rd v2 a0 l) := Lib.hid (Rd.past HR_w0.out HR_v1.out hf2 (fun b hb e => by have := HGE.out; omega)); clear ho2 hf2) | (go_at_call 25; (with_reducible refine (HSA.out _ g cap HO_v2.out.rd HR_v2.out).mono ?_); rintro e v3 ⟨rfl, rfl⟩))
      go_ret
      exact ⟨rfl, HF_v2.out⟩

set_option maxHeartbeats 2000000 in
set_option maxRecDepth 100000 in
theorem back_b_true (A0 : Option Addr) (n c : Nat) (ls : List V3) (a0 : Option Addr) (m cm : Nat) (l : List UInt8) (p : Int) (w : World) (hl : ls.length = n) (hrd : RdV w A0 ls) (hok : ∀ v ∈ ls, v.ok) (hc : n ≤ c) (hcm : c ≤ 9223372036854775807) (hn : n ≤ 140737488351232) (hll : l.length = m) (hrl : Rd w a0 l) (hm : m ≤ 140737488351232) {tk tb : TypeId} (hK : Bk w 1 KC tk) (hB : Bk w 0 HB8 tb) (hno : nodeOK ls = true) (h0 : 0 < n) (hk2 : okPut m p (el ls 0).a (el ls 0).b (el ls 0).s = true) :
    Calls Tryd.prog 8 #[.slice A0 n c, .slice a0 m cm, .int .i64 p] w fun e w' => e = .returned (.bool true) ∧ Fr0 w w' := by
  obtain ⟨b0, o0, rfl, -⟩ := hrd 0 (by omega)
  have h0i : (0 : Int) < n := by omega
  have hv := el_ok hok 0
  have HRG : Hid (∀ W : World, RdV W (some ⟨b0, o0, none⟩) ls → W.rangeAt b0 o0 (el ls 0).pc) := Lib.hid (fun W h => by
    obtain ⟨b, o, e, hr⟩ := h 0 (by omega)
    simp only [Option.some.injEq, Addr.mk.injEq, and_true] at e
    obtain ⟨rfl, rfl⟩ := e
    rw [← el_in, Nat.zero_mul, Nat.add_zero] at hr
    exact hr)
  have HIV : Hid ((Tryd.prog.info? 26).map (·.size) = some (el ls 0).pc.length) := Lib.hid (by rw [info_p, pc_length hv])
  have HIVa : Hid ((Tryd.prog.info? 26).map (·.size) = some (el ls 0).pc.toArray.size) := Lib.hid (by rw [info_p, List.size_toArray, pc_length hv])
  have HZV : Hid (ZERO.size = (el ls 0).pc.toArray.size) := Lib.hid ((show ZERO.size = 34 from rfl).trans (by rw [List.size_toArray, pc_length hv]))
  have HVO : Hid ((el ls 0).pc.toArray.all (·.oneCell') = true) := Lib.hid (by simp [V3.pc, PC, B, Value.oneCell'])
  have hpE : putE m p (el ls 0).a (el ls 0).b (el ls 0).s = 0 := by rw [putE, hk2]; rfl
  have hpL : putL l m p (el ls 0).a (el ls 0).b (el ls 0).s = (splice l p.toNat (el ls 0).by) := by rw [putL, hk2]; rfl
  have HPU : Hid (∀ (W : World) (g cap : Nat) (cur : Array Value), Own W g m cap cur l → Calls Tryd.prog 23 #[.slice (some ⟨g, 0, none⟩) m cap, .int .i64 p, .agg (el ls 0).pc.toArray] W fun e w' => e = .returned (.int .i64 0) ∧ (∃ cur', Own w' g m cap cur' (splice l p.toNat (el ls 0).by)) ∧ Fr (· = g) W w') := Lib.hid (fun W g cap cur h => by
    have := own_put g m cap p (el ls 0).a (el ls 0).b (el ls 0).s cur l W h hm hv.len hv.wa hv.wb
    rw [hpE, hpL] at this
    exact this)
  have hk3 : rightB (el ls 0).a (el ls 0).b (el ls 0).s = true ∧ ¬ NoRoom m p 40 := by
    unfold okPut at hk2
    rw [Bool.and_eq_true, Bool.not_eq_true', decide_eq_false_iff_not] at hk2
    exact hk2
  have hnr := hk3.2
  unfold NoRoom at hnr
  have hbl := V3.by_length hv
  have hcut : ((splice l p.toNat (el ls 0).by).drop p.toNat).take 40 = (el ls 0).by := by
    have := splice_part (l := l) (m := (el ls 0).by) (p := p.toNat) (by omega)
    rw [hbl] at this
    exact this
  have htX : takeX (splice l p.toNat (el ls 0).by) m p = (el ls 0).pc.toArray := by
    rw [takeX, if_neg hk3.2, hcut, tkX, tkR_by hk3.1 hv, if_pos rfl, (tk_by hk3.1 hv).1, (tk_by hk3.1 hv).2.1, (tk_by hk3.1 hv).2.2]
    rfl
  have htE : takeE (splice l p.toNat (el ls 0).by) m p = 0 := by
    rw [takeE, if_neg hk3.2, hcut, tkE, tkR_by hk3.1 hv]; rfl
  have HTK : Hid (∀ (W : World) (g cap : Nat) (cur : Array Value), Own W g m cap cur (splice l p.toNat (el ls 0).by) → Calls Tryd.prog 21 #[.slice (some ⟨g, 0, none⟩) m cap, .int .i64 p] W fun e w' => e = .returned (.tuple #[.agg (el ls 0).pc.toArray, .int .i64 0]) ∧ Fr0 W w') := Lib.hid (fun W g cap cur h => by
    have := own_take g m cap p cur _ W h hm
    rw [htX, htE] at this
    exact this)
  have heqv : ∀ W, (Op.equalIn 10000 26 (.agg (el ls 0).pc.toArray) (.agg (el ls 0).pc.toArray)).run Tryd.prog W = .ok true W := eq_self (el ls 0).a (el ls 0).b (el ls 0).s hv.len hv.wa hv.wb
  clear hk3 hnr hbl hcut htX htE
  have hc0 : ((n : Int) == 0) = false := by rw [beq_eq_false_iff_ne]; omega
  clear hpE hpL hv hk2
  have HNO : Hid (∀ W : World, RdV W (some ⟨b0, o0, none⟩) ls → Calls Tryd.prog 26 #[.slice (some ⟨b0, o0, none⟩) n c] W fun e w' => e = .returned (.tuple #[.agg (nodeX ls), .int .i64 (nodeE ls)]) ∧ Fr0 W w') := Lib.hid (fun W h => node_calls (some ⟨b0, o0, none⟩) n c ls W hl h hok hc hcm hn)
  have HIN : Hid ((Tryd.prog.info? 22).map (·.size) = some (nodeX ls).size) := Lib.hid (by rw [infoB, nodeX_size hok])
  have HZN : Hid (ZA.size = (nodeX ls).size) := Lib.hid ((show ZA.size = 128 by simp [ZA, Z128]).trans (nodeX_size hok).symm)
  have HON := Lib.hid (nodeX_one hok)
  have HCP : Hid (∀ W : World, Rd W a0 l → Calls Tryd.prog 20 #[.slice a0 m cm] W (CopyPost m l W)) := Lib.hid (fun W h => copy_calls a0 m cm l W hll h hm)
  have hz : ∀ W, (zeroValue 22).run Tryd.prog W = .ok (.agg ZA) W := by intro W; kernel_rfl
  have hz3 : ∀ W, (zeroValue 46).run Tryd.prog W = .ok (.agg ZERO3) W := by intro W; kernel_rfl
  have HF_w0 : Hid (Fr0 w w) := Lib.hid (Fr.refl _ _)
  have HD_w0 := Lib.hid hrd
  have HR_w0 := Lib.hid hrl
  have HK_w0 := Lib.hid hK
  have HB_w0 := Lib.hid hB
  have HL := Lib.hid hl
  have HLL := Lib.hid hll
  have HOK := Lib.hid hok
  have hE : nodeE ls = 0 := by rw [nodeE, hno]; rfl
  have hX : nodeX ls = ((nodeL ls).map B).toArray := by rw [nodeX, hno]; rfl
  have hnr : nodeR ls 3 = true := by
    unfold nodeOK at hno
    rw [Bool.and_eq_true] at hno
    exact hno.2
  have hL3 := partsL_node hok hnr
  have HPA : Hid (∀ W : World, Calls Tryd.prog 28 #[.agg (nodeX ls)] W fun e w' => e = .returned (.tuple #[.agg (partsL (nodeL ls) 3).toArray, .int .i64 0]) ∧ Fr0 W w') := Lib.hid (fun W => by
    have := parts_all (nodeL ls) W (nodeL_length hok)
    rw [partsX, partsE, parts_node hok hnr] at this
    rw [hX]
    exact this)
  have hPl := partsL_length (nodeL_length hok) 3 (Nat.le_refl _)
  have HIP : Hid ((Tryd.prog.info? 46).map (·.size) = some (partsL (nodeL ls) 3).toArray.size) := Lib.hid (by rw [info3, List.size_toArray, hPl])
  have HZP : Hid (ZERO3.size = (partsL (nodeL ls) 3).toArray.size) := Lib.hid (ZERO3_size.trans (by rw [List.size_toArray, hPl]))
  have HOP : Hid ((partsL (nodeL ls) 3).toArray.all (·.oneCell') = true) := Lib.hid (by simp [partsL, V3.pc, PC, B, Value.oneCell'])
  have HGT : Hid (∀ k, k < 3 → ∀ j u, (el ls k).pc[j]? = some u → (partsL (nodeL ls) 3).toArray[k * 34 + j]? = some u) := Lib.hid (fun k hk j u hj => by
    have l0 := pc_length (el_ok hok 0)
    have l1 := pc_length (el_ok hok 1)
    have hjl : j < (el ls k).pc.length := (List.getElem?_eq_some_iff.1 hj).1
    rw [pc_length (el_ok hok k)] at hjl
    rw [List.getElem?_toArray, hL3]
    rcases (show k = 0 ∨ k = 1 ∨ k = 2 by omega) with rfl | rfl | rfl
    · rw [Nat.zero_mul, Nat.zero_add, List.getElem?_append_left (by omega)]; exact hj
    · rw [List.getElem?_append_right (by omega), List.getElem?_append_left (by rw [l0, l1]; omega), l0, show 1 * 34 + j - 34 = j by omega]; exact hj
    · rw [List.getElem?_append_right (by omega), List.getElem?_append_right (by rw [l0, l1]; omega), l0, l1, show 2 * 34 + j - 34 - 34 = j by omega]; exact hj)
  rw [hE] at HNO
  clear hl hrd hok hll hrl hK hB hE hno h0 hX hnr hL3 hPl
  go_enter Tryd.func8, Tryd.ntmps8
  go_wp2_with (first | (go_at_call 9; (with_reducible refine (alive_calls _ HK_w0.out HB_w0.out).mono ?_); rintro e w1 ⟨rfl, hf⟩; have HF_w1 := Lib.hid (HF_w0.out.then0 hf); have HD_w1 := Lib.hid (HD_w0.out.later hf (fun _ _ h => h)); have HR_w1 := Lib.hid (HR_w0.out.later hf (fun _ _ h => h)); clear hf) | (go_at_call 26; (with_reducible refine (HNO.out _ HD_w1.out).mono ?_); rintro e w2 ⟨rfl, hf⟩; have HF_w2 := Lib.hid (HF_w1.out.then0 hf); have HD_w2 := Lib.hid (HD_w1.out.later hf (fun _ _ h => h)); have HR_w2 := Lib.hid (HR_w1.out.later hf (fun _ _ h => h)); have HZ_w2 : Hid (Bk (w2.alloc (.cells ZA 22)) w2.heap.size ZA 22) := Lib.hid (Bk.new _ _); clear hf) | (refine wpList_store_row rfl 22 _ _ rfl w2.heap.size (nodeX ls) rfl rfl 22 ZA HZ_w2.out HIN.out HZN.out HON.out ?_; change wpList _ _ _ _ _ ((w2.alloc (.cells ZA 22)).setRow w2.heap.size (nodeX ls)); have hfx : Fr0 w2 ((w2.alloc (.cells ZA 22)).setRow w2.heap.size (nodeX ls)) := ArrKit.Fr.row (Fr.alloc (Fr.refl _ _) _) _ _ (.inl (Nat.le_refl _)); have HG1_w3 : Hid (Bk ((w2.alloc (.cells ZA 22)).setRow w2.heap.size (nodeX ls)) w2.heap.size (nodeX ls) 22) := Lib.hid (ArrKit.Bk.row HZ_w2.out _); have HF_w3 := Lib.hid (HF_w2.out.then0 hfx); have HD_w3 := Lib.hid (HD_w2.out.later hfx (fun _ _ h => h)); have HR_w3 := Lib.hid (HR_w2.out.later hfx (fun _ _ h => h)); clear hfx; generalize ((w2.alloc (.cells ZA 22)).setRow w2.heap.size (nodeX ls)) = w3 at *; generalize w2.heap.size = G1 at *) | (refine wpList_load_row rfl 22 _ rfl G1 rfl 22 (nodeX ls) (0, 0) _ HG1_w3.out Tryd.underlying22 rfl HIN.out ?_) | (go_at_call 28; (with_reducible refine (HPA.out _).mono ?_); rintro e w4 ⟨rfl, hf⟩; have HF_w4 := Lib.hid (HF_w3.out.then0 hf); have HD_w4 := Lib.hid (HD_w3.out.later hf (fun _ _ h => h)); have HR_w4 := Lib.hid (HR_w3.out.later hf (fun _ _ h => h)); have HG1_w4 := Lib.hid (hf.keep HG1_w3.out (fun h => h)); have HZ_w4 : Hid (Bk (w4.alloc (.cells ZERO3 46)) w4.heap.size ZERO3 46) := Lib.hid (Bk.new _ _); clear hf) | (refine wpList_store_row rfl 46 _ _ rfl w4.heap.size (partsL (nodeL ls) 3).toArray rfl rfl 46 ZERO3 HZ_w4.out HIP.out HZP.out HOP.out ?_; change wpList _ _ _ _ _ ((w4.alloc (.cells ZERO3 46)).setRow w4.heap.size (partsL (nodeL ls) 3).toArray); have hfx : Fr0 w4 ((w4.alloc (.cells ZERO3 46)).setRow w4.heap.size (partsL (nodeL ls) 3).toArray) := ArrKit.Fr.row (Fr.alloc (Fr.refl _ _) _) _ _ (.inl (Nat.le_refl _)); have HG2_w5 : Hid (Bk ((w4.alloc (.cells ZERO3 46)).setRow w4.heap.size (partsL (nodeL ls) 3).toArray) w4.heap.size (partsL (nodeL ls) 3).toArray 46) := Lib.hid (ArrKit.Bk.row HZ_w4.out _); have HF_w5 := Lib.hid (HF_w4.out.then0 hfx); have HD_w5 := Lib.hid (HD_w4.out.later hfx (fun _ _ h => h)); have HR_w5 := Lib.hid (HR_w4.out.later hfx (fun _ _ h => h)); have HG1_w5 := Lib.hid (hfx.keep HG1_w4.out (fun h => h)); clear hfx; generalize ((w4.alloc (.cells ZERO3 46)).setRow w4.heap.size (partsL (nodeL ls) 3).toArray) = w5 at *; generalize w4.heap.size = G2 at *))
  have HFG : Hid (Fr0 w w5) := HF_w5
  go_loopw [11] (fun u wr => ∃ k : Nat, k ≤ 3 ∧ u = .int .i64 k ∧ Bk wr G2 (partsL (nodeL ls) 3).toArray 46 ∧ Fr0 w wr) (fun u _ => 3 - (intOf u).toNat)
  case atStart => exact ⟨0, by omega, rfl, HG2_w5.out, HF_w5.out⟩
  case round =>
    obtain ⟨k, hk, rfl, hgk, hfk⟩ := hrel
    have HGK := Lib.hid hgk
    have HF_wr := Lib.hid hfk
    have HD_wr : Hid (RdV wr (some ⟨b0, o0, none⟩) ls) := Lib.hid (HD_w0.out.later hfk (fun _ _ h => h))
    have HR_wr : Hid (Rd wr a0 l) := Lib.hid (HR_w0.out.later hfk (fun _ _ h => h))
    clear hgk hfk
    by_cases hlt : k < 3
    · have c9 : decide ((k : Int) < 3) = true := decide_eq_true (by omega)
      have hk3 : (k : Int) < 3 := by omega
      have HLT := Lib.hid hlt
      have hvk := el_ok HOK.out k
      have HIK : Hid ((Tryd.prog.info? 26).map (·.size) = some (el ls k).pc.length) := Lib.hid (by rw [info_p, pc_length hvk])
      have HGO : Hid (∀ W : World, W.heap[G2]? = some (.cells (partsL (nodeL ls) 3).toArray 46 (0, 0)) → W.rangeAt G2 (k * 34) (el ls k).pc) := Lib.hid (fun W h j u hj => by
        rw [Bk.cell h]
        exact HGT.out k HLT.out j u hj)
      clear hlt hk
      by_cases hkn' : k < n
      · have hkn : (k : Int) < n := by omega
        have c8 : decide (k < n) = true := decide_eq_true hkn'
        have c7 : decide (n ≤ k) = false := decide_eq_false (by omega)
        have heqk : ∀ W, (Op.equalIn 10000 26 (.agg (el ls k).pc.toArray) (.agg (el ls k).pc.toArray)).run Tryd.prog W = .ok true W := eq_self (el ls k).a (el ls k).b (el ls k).s hvk.len hvk.wa hvk.wb
        obtain ⟨b, o, eb, hr⟩ := HD_wr.out k (by rw [HL.out]; exact hkn')
        simp only [Option.some.injEq, Addr.mk.injEq, and_true] at eb
        obtain ⟨rfl, rfl⟩ := eb
        rw [← el_in] at hr
        obtain ⟨ob, hob⟩ : ∃ ob, wr.heap[b0]? = some ob := ⟨_, Array.getElem?_eq_getElem (World.block_lt_of_cell? wr _ (hr 0 (.int .i64 (el ls k).a) rfl))⟩
        have HBO : Hid (∀ W : World, W.heap[b0]? = some ob → W.rangeAt b0 (o0 + k * 34) (el ls k).pc) := Lib.hid (fun W h j u hj => by
          have := hr j u hj
          simp only [World.cell?, hob, h] at this ⊢
          exact this)
        have H7 : Hid (Held w [(G2, .cells (partsL (nodeL ls) 3).toArray 46 (0, 0)), (b0, ob)] wr) := Lib.hid (Held.cons HGK.out (Held.cons hob (Held.nil HF_wr.out)))
        clear hr hob hvk hkn'
        go_wp2_with fail
        refine wp_region_noPanic ?_
        refine wp_region_held_drew (S := (Held w [(G2, .cells (partsL (nodeL ls) 3).toArray 46 (0, 0)), (b0, ob)])) (by kernel_rfl) (Held.drew H7.out) (fun hHeld0 => ?_)
        change wpAnyH _ _ _ _ _ 27 #[false, false, false, false, false, false, false, false, false, false, false, false, false, false, false, false, false, false, false, false, false, false, false, false, false, false, false] _ _
        refine wpAnyH_take (i := 0) (v := .int .i64 (k : Int)) rfl (by kernel_rfl) (by kernel_rfl) (by kernel_rfl) (fun _ _ _ h => h) (Or.inl ⟨by kernel_rfl, fun w hSw => by first | kernel_rfl | (go_simp; done)⟩) hHeld0 ?_
        simp only [Act.put, List.getElem_toArray, List.getElem_cons_succ, List.getElem_cons_zero, List.setIfInBounds_toArray, List.set_cons_zero, List.set_cons_succ]
        change wpAnyH _ _ _ _ _ 26 #[true, false, false, false, false, false, false, false, false, false, false, false, false, false, false, false, false, false, false, false, false, false, false, false, false, false, false] _ _
        refine wpAnyH_take (i := 1) (v := .slice (some ⟨b0, o0, none⟩) n c) rfl (by kernel_rfl) (by kernel_rfl) (by kernel_rfl) (fun _ _ _ h => h) (Or.inl ⟨by kernel_rfl, fun w hSw => by first | kernel_rfl | (go_simp; done)⟩) hHeld0 ?_
        simp only [Act.put, List.getElem_toArray, List.getElem_cons_succ, List.getElem_cons_zero, List.setIfInBounds_toArray, List.set_cons_zero, List.set_cons_succ]
        change wpAnyH _ _ _ _ _ 25 #[true, true, false, false, false, false, false, false, false, false, false, false, false, false, false, false, false, false, false, false, false, false, false, false, false, false, false] _ _
        refine wpAnyH_take (i := 2) (v := .int .i64 (n : Int)) rfl (by kernel_rfl) (by kernel_rfl) (by kernel_rfl) (fun _ _ _ h => h) (Or.inl ⟨by kernel_rfl, fun w hSw => by first | kernel_rfl | (go_simp; done)⟩) hHeld0 ?_
        simp only [Act.put, List.getElem_toArray, List.getElem_cons_succ, List.getElem_cons_zero, List.setIfInBounds_toArray, List.set_cons_zero, List.set_cons_succ]
        change wpAnyH _ _ _ _ _ 24 #[true, true, true, false, false, false, false, false, false, false, false, false, false, false, false, false, false, false, false, false, false, false, false, false, false, false, false] _ _
        refine wpAnyH_take (i := 3) (v := .bool true) rfl (by kernel_rfl) (by kernel_rfl) (by kernel_rfl) (fun _ _ _ h => h) (Or.inl ⟨by kernel_rfl, fun w hSw => by go_simp <;> (first | exact beq_iff_eq.1 (by assumption) | exact beq_eq_false_iff_ne.1 (by assumption) | omega)⟩) hHeld0 ?_
        simp only [Act.put, List.getElem_toArray, List.getElem_cons_succ, List.getElem_cons_zero, List.setIfInBounds_toArray, List.set_cons_zero, List.set_cons_succ]
        change wpAnyH _ _ _ _ _ 23 #[true, true, true, true, false, false, false, false, false, false, false, false, false, false, false, false, false, false, false, false, false, false, false, false, false, false, false] _ _
        refine wpAnyH_take (i := 4) (v := .bool true) rfl (by kernel_rfl) (by kernel_rfl) (by kernel_rfl) (fun _ _ _ h => h) (Or.inl ⟨by kernel_rfl, fun w hSw => by first | kernel_rfl | (go_simp; done)⟩) hHeld0 ?_
        simp only [Act.put, List.getElem_toArray, List.getElem_cons_succ, List.getElem_cons_zero, List.setIfInBounds_toArray, List.set_cons_zero, List.set_cons_succ]
        change wpAnyH _ _ _ _ _ 22 #[true, true, true, true, true, false, false, false, false, false, false, false, false, false, false, false, false, false, false, false, false, false, false, false, false, false, false] _ _
        refine wpAnyH_take (i := 5) (v := .int .i64 (k : Int)) rfl (by kernel_rfl) (by kernel_rfl) (by kernel_rfl) (fun _ _ _ h => h) (Or.inl ⟨by kernel_rfl, fun w hSw => by first | kernel_rfl | (go_simp; done)⟩) hHeld0 ?_
        simp only [Act.put, List.getElem_toArray, List.getElem_cons_succ, List.getElem_cons_zero, List.setIfInBounds_toArray, List.set_cons_zero, List.set_cons_succ]
        change wpAnyH _ _ _ _ _ 21 #[true, true, true, true, true, true, false, false, false, false, false, false, false, false, false, false, false, false, false, false, false, false, false, false, false, false, false] _ _
        refine wpAnyH_take (i := 6) (v := .pointer (some ⟨G2, k * 34, none⟩)) rfl (by kernel_rfl) (by kernel_rfl) (by kernel_rfl) (fun _ _ _ h => h) (Or.inl ⟨by kernel_rfl, fun w hSw => by have h3 := hk3; go_simp <;> omega⟩) hHeld0 ?_
        simp only [Act.put, List.getElem_toArray, List.getElem_cons_succ, List.getElem_cons_zero, List.setIfInBounds_toArray, List.set_cons_zero, List.set_cons_succ]
        change wpAnyH _ _ _ _ _ 20 #[true, true, true, true, true, true, true, false, false, false, false, false, false, false, false, false, false, false, false, false, false, false, false, false, false, false, false] _ _
        refine wpAnyH_take (i := 7) (v := .agg (el ls k).pc.toArray) rfl (by kernel_rfl) (by kernel_rfl) (by kernel_rfl) (fun _ _ _ h => h) (yieldsIf_load_mid (by kernel_rfl) 26 _ rfl G2 (k * 34) rfl (el ls k).pc _ (fun W h => HGO.out W (Held.a0 h)) Tryd.underlying26 rfl HIK.out) hHeld0 ?_
        simp only [Act.put, List.getElem_toArray, List.getElem_cons_succ, List.getElem_cons_zero, List.setIfInBounds_toArray, List.set_cons_zero, List.set_cons_succ]
        change wpAnyH _ _ _ _ _ 19 #[true, true, true, true, true, true, true, true, false, false, false, false, false, false, false, false, false, false, false, false, false, false, false, false, false, false, false] _ _
        refine wpAnyH_take (i := 8) (v := .slice (some ⟨b0, o0, none⟩) n c) rfl (by kernel_rfl) (by kernel_rfl) (by kernel_rfl) (fun _ _ _ h => h) (Or.inl ⟨by kernel_rfl, fun w hSw => by first | kernel_rfl | (go_simp; done)⟩) hHeld0 ?_
        simp only [Act.put, List.getElem_toArray, List.getElem_cons_succ, List.getElem_cons_zero, List.setIfInBounds_toArray, List.set_cons_zero, List.set_cons_succ]
        change wpAnyH _ _ _ _ _ 18 #[true, true, true, true, true, true, true, true, true, false, false, false, false, false, false, false, false, false, false, false, false, false, false, false, false, false, false] _ _
        refine wpAnyH_take (i := 9) (v := .int .i64 (k : Int)) rfl (by kernel_rfl) (by kernel_rfl) (by kernel_rfl) (fun _ _ _ h => h) (Or.inl ⟨by kernel_rfl, fun w hSw => by first | kernel_rfl | (go_simp; done)⟩) hHeld0 ?_
        simp only [Act.put, List.getElem_toArray, List.getElem_cons_succ, List.getElem_cons_zero, List.setIfInBounds_toArray, List.set_cons_zero, List.set_cons_succ]
        change wpAnyH _ _ _ _ _ 17 #[true, true, true, true, true, true, true, true, true, true, false, false, false, false, false, false, false, false, false, false, false, false, false, false, false, false, false] _ _
        refine wpAnyH_take (i := 10) (v := .pointer (some ⟨b0, o0 + k * 34, none⟩)) rfl (by kernel_rfl) (by kernel_rfl) (by kernel_rfl) (fun _ _ _ h => h) (Or.inl ⟨by kernel_rfl, fun w hSw => by have h3 := hkn; go_simp <;> omega⟩) hHeld0 ?_
        simp only [Act.put, List.getElem_toArray, List.getElem_cons_succ, List.getElem_cons_zero, List.setIfInBounds_toArray, List.set_cons_zero, List.set_cons_succ]
        change wpAnyH _ _ _ _ _ 16 #[true, true, true, true, true, true, true, true, true, true, true, false, false, false, false, false, false, false, false, false, false, false, false, false, false, false, false] _ _
        refine wpAnyH_take (i := 11) (v := .agg (el ls k).pc.toArray) rfl (by kernel_rfl) (by kernel_rfl) (by kernel_rfl) (fun _ _ _ h => h) (yieldsIf_load_mid (by kernel_rfl) 26 _ rfl b0 (o0 + k * 34) rfl (el ls k).pc _ (fun W h => HBO.out W (Held.a0 (Held.tl h))) Tryd.underlying26 rfl HIK.out) hHeld0 ?_
        simp only [Act.put, List.getElem_toArray, List.getElem_cons_succ, List.getElem_cons_zero, List.setIfInBounds_toArray, List.set_cons_zero, List.set_cons_succ]
        change wpAnyH _ _ _ _ _ 15 #[true, true, true, true, true, true, true, true, true, true, true, true, false, false, false, false, false, false, false, false, false, false, false, false, false, false, false] _ _
        refine wpAnyH_take (i := 12) (v := .bool false) rfl (by kernel_rfl) (by kernel_rfl) (by kernel_rfl) (fun _ _ _ h => h) (Or.inl ⟨by kernel_rfl, fun w hSw => run_neq_op (b := true) rfl rfl rfl guard_p heqk w⟩) hHeld0 ?_
        simp only [Act.put, List.getElem_toArray, List.getElem_cons_succ, List.getElem_cons_zero, List.setIfInBounds_toArray, List.set_cons_zero, List.set_cons_succ]
        change wpAnyH _ _ _ _ _ 14 #[true, true, true, true, true, true, true, true, true, true, true, true, true, false, false, false, false, false, false, false, false, false, false, false, false, false, false] _ _
        refine wpAnyH_take (i := 13) (v := .bool false) rfl (by kernel_rfl) (by kernel_rfl) (by kernel_rfl) (fun _ _ _ h => h) (Or.inl ⟨by kernel_rfl, fun w hSw => by first | kernel_rfl | (go_simp; done)⟩) hHeld0 ?_
        simp only [Act.put, List.getElem_toArray, List.getElem_cons_succ, List.getElem_cons_zero, List.setIfInBounds_toArray, List.set_cons_zero, List.set_cons_succ]
        change wpAnyH _ _ _ _ _ 13 #[true, true, true, true, true, true, true, true, true, true, true, true, true, true, false, false, false, false, false, false, false, false, false, false, false, false, false] _ _
        refine wpAnyH_take (i := 14) (v := .bool false) rfl (by kernel_rfl) (by kernel_rfl) (by kernel_rfl) (fun _ _ _ h => h) (Or.inl ⟨by kernel_rfl, fun w hSw => by first | kernel_rfl | (go_simp; done)⟩) hHeld0 ?_
        simp only [Act.put, List.getElem_toArray, List.getElem_cons_succ, List.getElem_cons_zero, List.setIfInBounds_toArray, List.set_cons_zero, List.set_cons_succ]
        change wpAnyH _ _ _ _ _ 12 #[true, true, true, true, true, true, true, true, true, true, true, true, true, true, true, false, false, false, false, false, false, false, false, false, false, false, false] _ _
        refine wpAnyH_take (i := 15) (v := .int .i64 (k : Int)) rfl (by kernel_rfl) (by kernel_rfl) (by kernel_rfl) (fun _ _ _ h => h) (Or.inl ⟨by kernel_rfl, fun w hSw => by first | kernel_rfl | (go_simp; done)⟩) hHeld0 ?_
        simp only [Act.put, List.getElem_toArray, List.getElem_cons_succ, List.getElem_cons_zero, List.setIfInBounds_toArray, List.set_cons_zero, List.set_cons_succ]
        change wpAnyH _ _ _ _ _ 11 #[true, true, true, true, true, true, true, true, true, true, true, true, true, true, true, true, false, false, false, false, false, false, false, false, false, false, false] _ _
        refine wpAnyH_take (i := 16) (v := .slice (some ⟨b0, o0, none⟩) n c) rfl (by kernel_rfl) (by kernel_rfl) (by kernel_rfl) (fun _ _ _ h => h) (Or.inl ⟨by kernel_rfl, fun w hSw => by first | kernel_rfl | (go_simp; done)⟩) hHeld0 ?_
        simp only [Act.put, List.getElem_toArray, List.getElem_cons_succ, List.getElem_cons_zero, List.setIfInBounds_toArray, List.set_cons_zero, List.set_cons_succ]
        change wpAnyH _ _ _ _ _ 10 #[true, true, true, true, true, true, true, true, true, true, true, true, true, true, true, true, true, false, false, false, false, false, false, false, false, false, false] _ _
        refine wpAnyH_take (i := 17) (v := .int .i64 (n : Int)) rfl (by kernel_rfl) (by kernel_rfl) (by kernel_rfl) (fun _ _ _ h => h) (Or.inl ⟨by kernel_rfl, fun w hSw => by first | kernel_rfl | (go_simp; done)⟩) hHeld0 ?_
        simp only [Act.put, List.getElem_toArray, List.getElem_cons_succ, List.getElem_cons_zero, List.setIfInBounds_toArray, List.set_cons_zero, List.set_cons_succ]
        change wpAnyH _ _ _ _ _ 9 #[true, true, true, true, true, true, true, true, true, true, true, true, true, true, true, true, true, true, false, false, false, false, false, false, false, false, false] _ _
        refine wpAnyH_take (i := 18) (v := .bool false) rfl (by kernel_rfl) (by kernel_rfl) (by kernel_rfl) (fun _ _ _ h => h) (Or.inl ⟨by kernel_rfl, fun w hSw => by go_simp <;> (first | exact beq_iff_eq.1 (by assumption) | exact beq_eq_false_iff_ne.1 (by assumption) | omega)⟩) hHeld0 ?_
        simp only [Act.put, List.getElem_toArray, List.getElem_cons_succ, List.getElem_cons_zero, List.setIfInBounds_toArray, List.set_cons_zero, List.set_cons_succ]
        change wpAnyH _ _ _ _ _ 8 #[true, true, true, true, true, true, true, true, true, true, true, true, true, true, true, true, true, true, true, false, false, false, false, false, false, false, false] _ _
        refine wpAnyH_take (i := 19) (v := .bool false) rfl (by kernel_rfl) (by kernel_rfl) (by kernel_rfl) (fun _ _ _ h => h) (Or.inl ⟨by kernel_rfl, fun w hSw => by first | kernel_rfl | (go_simp; done)⟩) hHeld0 ?_
        simp only [Act.put, List.getElem_toArray, List.getElem_cons_succ, List.getElem_cons_zero, List.setIfInBounds_toArray, List.set_cons_zero, List.set_cons_succ]
        change wpAnyH _ _ _ _ _ 7 #[true, true, true, true, true, true, true, true, true, true, true, true, true, true, true, true, true, true, true, true, false, false, false, false, false, false, false] _ _
        refine wpAnyH_take (i := 20) (v := undef) rfl (by kernel_rfl) (by kernel_rfl) (by kernel_rfl) (fun _ _ _ h => h) (Or.inr ⟨by kernel_rfl, rfl⟩) hHeld0 ?_
        simp only [Act.put, List.getElem_toArray, List.getElem_cons_succ, List.getElem_cons_zero, List.setIfInBounds_toArray, List.set_cons_zero, List.set_cons_succ]
        change wpAnyH _ _ _ _ _ 6 #[true, true, true, true, true, true, true, true, true, true, true, true, true, true, true, true, true, true, true, true, true, false, false, false, false, false, false] _ _
        refine wpAnyH_take (i := 21) (v := undef) rfl (by kernel_rfl) (by kernel_rfl) (by kernel_rfl) (fun _ _ _ h => h) (Or.inr ⟨by kernel_rfl, rfl⟩) hHeld0 ?_
        simp only [Act.put, List.getElem_toArray, List.getElem_cons_succ, List.getElem_cons_zero, List.setIfInBounds_toArray, List.set_cons_zero, List.set_cons_succ]
        change wpAnyH _ _ _ _ _ 5 #[true, true, true, true, true, true, true, true, true, true, true, true, true, true, true, true, true, true, true, true, true, true, false, false, false, false, false] _ _
        refine wpAnyH_take (i := 22) (v := undef) rfl (by kernel_rfl) (by kernel_rfl) (by kernel_rfl) (fun _ _ _ h => h) (Or.inr ⟨by kernel_rfl, rfl⟩) hHeld0 ?_
        simp only [Act.put, List.getElem_toArray, List.getElem_cons_succ, List.getElem_cons_zero, List.setIfInBounds_toArray, List.set_cons_zero, List.set_cons_succ]
        change wpAnyH _ _ _ _ _ 4 #[true, true, true, true, true, true, true, true, true, true, true, true, true, true, true, true, true, true, true, true, true, true, true, false, false, false, false] _ _
        refine wpAnyH_take (i := 23) (v := undef) rfl (by kernel_rfl) (by kernel_rfl) (by kernel_rfl) (fun _ _ _ h => h) (Or.inr ⟨by kernel_rfl, rfl⟩) hHeld0 ?_
        simp only [Act.put, List.getElem_toArray, List.getElem_cons_succ, List.getElem_cons_zero, List.setIfInBounds_toArray, List.set_cons_zero, List.set_cons_succ]
        change wpAnyH _ _ _ _ _ 3 #[true, true, true, true, true, true, true, true, true, true, true, true, true, true, true, true, true, true, true, true, true, true, true, true, false, false, false] _ _
        refine wpAnyH_take (i := 24) (v := undef) rfl (by kernel_rfl) (by kernel_rfl) (by kernel_rfl) (fun _ _ _ h => h) (Or.inr ⟨by kernel_rfl, rfl⟩) hHeld0 ?_
        simp only [Act.put, List.getElem_toArray, List.getElem_cons_succ, List.getElem_cons_zero, List.setIfInBounds_toArray, List.set_cons_zero, List.set_cons_succ]
        change wpAnyH _ _ _ _ _ 2 #[true, true, true, true, true, true, true, true, true, true, true, true, true, true, true, true, true, true, true, true, true, true, true, true, true, false, false] _ _
        refine wpAnyH_take (i := 25) (v := .bool false) rfl (by kernel_rfl) (by kernel_rfl) (by kernel_rfl) (fun _ _ _ h => h) (Or.inl ⟨by kernel_rfl, fun w hSw => by first | kernel_rfl | (go_simp; done)⟩) hHeld0 ?_
        simp only [Act.put, List.getElem_toArray, List.getElem_cons_succ, List.getElem_cons_zero, List.setIfInBounds_toArray, List.set_cons_zero, List.set_cons_succ]
        change wpAnyH _ _ _ _ _ 1 #[true, true, true, true, true, true, true, true, true, true, true, true, true, true, true, true, true, true, true, true, true, true, true, true, true, true, false] _ _
        refine wpAnyH_take (i := 26) (v := .bool false) rfl (by kernel_rfl) (by kernel_rfl) (by kernel_rfl) (fun _ _ _ h => h) (Or.inl ⟨by kernel_rfl, fun w hSw => by first | kernel_rfl | (go_simp; done)⟩) hHeld0 ?_
        simp only [Act.put, List.getElem_toArray, List.getElem_cons_succ, List.getElem_cons_zero, List.setIfInBounds_toArray, List.set_cons_zero, List.set_cons_succ]
        change wpAnyH _ _ _ _ _ 0 #[true, true, true, true, true, true, true, true, true, true, true, true, true, true, true, true, true, true, true, true, true, true, true, true, true, true, true] _ _
        refine wpAnyH_done (by kernel_rfl) ?_ _
        refine NoPanic.normal ?_
        have HFIN := Lib.hid (Held.f hHeld0)
        have HEND := Lib.hid hHeld0
        clear hHeld0
        have HG8 := Lib.hid (Held.a0 HEND.out)
        clear c8 c7 heqk
        go_wp2
        exact ⟨⟨k + 1, by have := HLT.out; omega, by go_num, HG8.out, HFIN.out⟩, by have := HLT.out; simp [intOf]; omega⟩
      · have c8 : decide (k < n) = false := decide_eq_false hkn'
        have c7 : decide (n ≤ k) = true := decide_eq_true (by omega)
        have hel : el ls k = hol := el_out (by rw [HL.out]; omega)
        have heqk : ∀ W, (Op.equalIn 10000 26 (.agg (el ls k).pc.toArray) (.agg HOLE)).run Tryd.prog W = .ok true W := by rw [hel]; exact eq_self (-1) (-1) Z Z_len (by decide) (by decide)
        have H7 : Hid (Held w [(G2, .cells (partsL (nodeL ls) 3).toArray 46 (0, 0))] wr) := Lib.hid (Held.cons HGK.out (Held.nil HF_wr.out))
        clear hvk hel
        go_wp2_with fail
        refine wp_region_noPanic ?_
        refine wp_region_held_drew (S := (Held w [(G2, .cells (partsL (nodeL ls) 3).toArray 46 (0, 0))])) (by kernel_rfl) (Held.drew H7.out) (fun hHeld0 => ?_)
        change wpAnyH _ _ _ _ _ 27 #[false, false, false, false, false, false, false, false, false, false, false, false, false, false, false, false, false, false, false, false, false, false, false, false, false, false, false] _ _
        refine wpAnyH_take (i := 0) (v := .int .i64 (k : Int)) rfl (by kernel_rfl) (by kernel_rfl) (by kernel_rfl) (fun _ _ _ h => h) (Or.inl ⟨by kernel_rfl, fun w hSw => by first | kernel_rfl | (go_simp; done)⟩) hHeld0 ?_
        simp only [Act.put, List.getElem_toArray, List.getElem_cons_succ, List.getElem_cons_zero, List.setIfInBounds_toArray, List.set_cons_zero, List.set_cons_succ]
        change wpAnyH _ _ _ _ _ 26 #[true, false, false, false, false, false, false, false, false, false, false, false, false, false, false, false, false, false, false, false, false, false, false, false, false, false, false] _ _
        refine wpAnyH_take (i := 1) (v := .slice (some ⟨b0, o0, none⟩) n c) rfl (by kernel_rfl) (by kernel_rfl) (by kernel_rfl) (fun _ _ _ h => h) (Or.inl ⟨by kernel_rfl, fun w hSw => by first | kernel_rfl | (go_simp; done)⟩) hHeld0 ?_
        simp only [Act.put, List.getElem_toArray, List.getElem_cons_succ, List.getElem_cons_zero, List.setIfInBounds_toArray, List.set_cons_zero, List.set_cons_succ]
        change wpAnyH _ _ _ _ _ 25 #[true, true, false, false, false, false, false, false, false, false, false, false, false, false, false, false, false, false, false, false, false, false, false, false, false, false, false] _ _
        refine wpAnyH_take (i := 2) (v := .int .i64 (n : Int)) rfl (by kernel_rfl) (by kernel_rfl) (by kernel_rfl) (fun _ _ _ h => h) (Or.inl ⟨by kernel_rfl, fun w hSw => by first | kernel_rfl | (go_simp; done)⟩) hHeld0 ?_
        simp only [Act.put, List.getElem_toArray, List.getElem_cons_succ, List.getElem_cons_zero, List.setIfInBounds_toArray, List.set_cons_zero, List.set_cons_succ]
        change wpAnyH _ _ _ _ _ 24 #[true, true, true, false, false, false, false, false, false, false, false, false, false, false, false, false, false, false, false, false, false, false, false, false, false, false, false] _ _
        refine wpAnyH_take (i := 3) (v := .bool false) rfl (by kernel_rfl) (by kernel_rfl) (by kernel_rfl) (fun _ _ _ h => h) (Or.inl ⟨by kernel_rfl, fun w hSw => by go_simp <;> (first | exact beq_iff_eq.1 (by assumption) | exact beq_eq_false_iff_ne.1 (by assumption) | omega)⟩) hHeld0 ?_
        simp only [Act.put, List.getElem_toArray, List.getElem_cons_succ, List.getElem_cons_zero, List.setIfInBounds_toArray, List.set_cons_zero, List.set_cons_succ]
        change wpAnyH _ _ _ _ _ 23 #[true, true, true, true, false, false, false, false, false, false, false, false, false, false, false, false, false, false, false, false, false, false, false, false, false, false, false] _ _
        refine wpAnyH_take (i := 4) (v := .bool false) rfl (by kernel_rfl) (by kernel_rfl) (by kernel_rfl) (fun _ _ _ h => h) (Or.inl ⟨by kernel_rfl, fun w hSw => by first | kernel_rfl | (go_simp; done)⟩) hHeld0 ?_
        simp only [Act.put, List.getElem_toArray, List.getElem_cons_succ, List.getElem_cons_zero, List.setIfInBounds_toArray, List.set_cons_zero, List.set_cons_succ]
        change wpAnyH _ _ _ _ _ 22 #[true, true, true, true, true, false, false, false, false, false, false, false, false, false, false, false, false, false, false, false, false, false, false, false, false, false, false] _ _
        refine wpAnyH_take (i := 5) (v := undef) rfl (by kernel_rfl) (by kernel_rfl) (by kernel_rfl) (fun _ _ _ h => h) (Or.inr ⟨by kernel_rfl, rfl⟩) hHeld0 ?_
        simp only [Act.put, List.getElem_toArray, List.getElem_cons_succ, List.getElem_cons_zero, List.setIfInBounds_toArray, List.set_cons_zero, List.set_cons_succ]
        change wpAnyH _ _ _ _ _ 21 #[true, true, true, true, true, true, false, false, false, false, false, false, false, false, false, false, false, false, false, false, false, false, false, false, false, false, false] _ _
        refine wpAnyH_take (i := 6) (v := undef) rfl (by kernel_rfl) (by kernel_rfl) (by kernel_rfl) (fun _ _ _ h => h) (Or.inr ⟨by kernel_rfl, rfl⟩) hHeld0 ?_
        simp only [Act.put, List.getElem_toArray, List.getElem_cons_succ, List.getElem_cons_zero, List.setIfInBounds_toArray, List.set_cons_zero, List.set_cons_succ]
        change wpAnyH _ _ _ _ _ 20 #[true, true, true, true, true, true, true, false, false, false, false, false, false, false, false, false, false, false, false, false, false, false, false, false, false, false, false] _ _
        refine wpAnyH_take (i := 7) (v := undef) rfl (by kernel_rfl) (by kernel_rfl) (by kernel_rfl) (fun _ _ _ h => h) (Or.inr ⟨by kernel_rfl, rfl⟩) hHeld0 ?_
        simp only [Act.put, List.getElem_toArray, List.getElem_cons_succ, List.getElem_cons_zero, List.setIfInBounds_toArray, List.set_cons_zero, List.set_cons_succ]
        change wpAnyH _ _ _ _ _ 19 #[true, true, true, true, true, true, true, true, false, false, false, false, false, false, false, false, false, false, false, false, false, false, false, false, false, false, false] _ _
        refine wpAnyH_take (i := 8) (v := undef) rfl (by kernel_rfl) (by kernel_rfl) (by kernel_rfl) (fun _ _ _ h => h) (Or.inr ⟨by kernel_rfl, rfl⟩) hHeld0 ?_
        simp only [Act.put, List.getElem_toArray, List.getElem_cons_succ, List.getElem_cons_zero, List.setIfInBounds_toArray, List.set_cons_zero, List.set_cons_succ]
        change wpAnyH _ _ _ _ _ 18 #[true, true, true, true, true, true, true, true, true, false, false, false, false, false, false, false, false, false, false, false, false, false, false, false, false, false, false] _ _
        refine wpAnyH_take (i := 9) (v := undef) rfl (by kernel_rfl) (by kernel_rfl) (by kernel_rfl) (fun _ _ _ h => h) (Or.inr ⟨by kernel_rfl, rfl⟩) hHeld0 ?_
        simp only [Act.put, List.getElem_toArray, List.getElem_cons_succ, List.getElem_cons_zero, List.setIfInBounds_toArray, List.set_cons_zero, List.set_cons_succ]
        change wpAnyH _ _ _ _ _ 17 #[true, true, true, true, true, true, true, true, true, true, false, false, false, false, false, false, false, false, false, false, false, false, false, false, false, false, false] _ _
        refine wpAnyH_take (i := 10) (v := undef) rfl (by kernel_rfl) (by kernel_rfl) (by kernel_rfl) (fun _ _ _ h => h) (Or.inr ⟨by kernel_rfl, rfl⟩) hHeld0 ?_
        simp only [Act.put, List.getElem_toArray, List.getElem_cons_succ, List.getElem_cons_zero, List.setIfInBounds_toArray, List.set_cons_zero, List.set_cons_succ]
        change wpAnyH _ _ _ _ _ 16 #[true, true, true, true, true, true, true, true, true, true, true, false, false, false, false, false, false, false, false, false, false, false, false, false, false, false, false] _ _
        refine wpAnyH_take (i := 11) (v := undef) rfl (by kernel_rfl) (by kernel_rfl) (by kernel_rfl) (fun _ _ _ h => h) (Or.inr ⟨by kernel_rfl, rfl⟩) hHeld0 ?_
        simp only [Act.put, List.getElem_toArray, List.getElem_cons_succ, List.getElem_cons_zero, List.setIfInBounds_toArray, List.set_cons_zero, List.set_cons_succ]
        change wpAnyH _ _ _ _ _ 15 #[true, true, true, true, true, true, true, true, true, true, true, true, false, false, false, false, false, false, false, false, false, false, false, false, false, false, false] _ _
        refine wpAnyH_take (i := 12) (v := undef) rfl (by kernel_rfl) (by kernel_rfl) (by kernel_rfl) (fun _ _ _ h => h) (Or.inr ⟨by kernel_rfl, rfl⟩) hHeld0 ?_
        simp only [Act.put, List.getElem_toArray, List.getElem_cons_succ, List.getElem_cons_zero, List.setIfInBounds_toArray, List.set_cons_zero, List.set_cons_succ]
        change wpAnyH _ _ _ _ _ 14 #[true, true, true, true, true, true, true, true, true, true, true, true, true, false, false, false, false, false, false, false, false, false, false, false, false, false, false] _ _
        refine wpAnyH_take (i := 13) (v := .bool false) rfl (by kernel_rfl) (by kernel_rfl) (by kernel_rfl) (fun _ _ _ h => h) (Or.inl ⟨by kernel_rfl, fun w hSw => by first | kernel_rfl | (go_simp; done)⟩) hHeld0 ?_
        simp only [Act.put, List.getElem_toArray, List.getElem_cons_succ, List.getElem_cons_zero, List.setIfInBounds_toArray, List.set_cons_zero, List.set_cons_succ]
        change wpAnyH _ _ _ _ _ 13 #[true, true, true, true, true, true, true, true, true, true, true, true, true, true, false, false, false, false, false, false, false, false, false, false, false, false, false] _ _
        refine wpAnyH_take (i := 14) (v := .bool false) rfl (by kernel_rfl) (by kernel_rfl) (by kernel_rfl) (fun _ _ _ h => h) (Or.inl ⟨by kernel_rfl, fun w hSw => by first | kernel_rfl | (go_simp; done)⟩) hHeld0 ?_
        simp only [Act.put, List.getElem_toArray, List.getElem_cons_succ, List.getElem_cons_zero, List.setIfInBounds_toArray, List.set_cons_zero, List.set_cons_succ]
        change wpAnyH _ _ _ _ _ 12 #[true, true, true, true, true, true, true, true, true, true, true, true, true, true, true, false, false, false, false, false, false, false, false, false, false, false, false] _ _
        refine wpAnyH_take (i := 15) (v := .int .i64 (k : Int)) rfl (by kernel_rfl) (by kernel_rfl) (by kernel_rfl) (fun _ _ _ h => h) (Or.inl ⟨by kernel_rfl, fun w hSw => by first | kernel_rfl | (go_simp; done)⟩) hHeld0 ?_
        simp only [Act.put, List.getElem_toArray, List.getElem_cons_succ, List.getElem_cons_zero, List.setIfInBounds_toArray, List.set_cons_zero, List.set_cons_succ]
        change wpAnyH _ _ _ _ _ 11 #[true, true, true, true, true, true, true, true, true, true, true, true, true, true, true, true, false, false, false, false, false, false, false, false, false, false, false] _ _
        refine wpAnyH_take (i := 16) (v := .slice (some ⟨b0, o0, none⟩) n c) rfl (by kernel_rfl) (by kernel_rfl) (by kernel_rfl) (fun _ _ _ h => h) (Or.inl ⟨by kernel_rfl, fun w hSw => by first | kernel_rfl | (go_simp; done)⟩) hHeld0 ?_
        simp only [Act.put, List.getElem_toArray, List.getElem_cons_succ, List.getElem_cons_zero, List.setIfInBounds_toArray, List.set_cons_zero, List.set_cons_succ]
        change wpAnyH _ _ _ _ _ 10 #[true, true, true, true, true, true, true, true, true, true, true, true, true, true, true, true, true, false, false, false, false, false, false, false, false, false, false] _ _
        refine wpAnyH_take (i := 17) (v := .int .i64 (n : Int)) rfl (by kernel_rfl) (by kernel_rfl) (by kernel_rfl) (fun _ _ _ h => h) (Or.inl ⟨by kernel_rfl, fun w hSw => by first | kernel_rfl | (go_simp; done)⟩) hHeld0 ?_
        simp only [Act.put, List.getElem_toArray, List.getElem_cons_succ, List.getElem_cons_zero, List.setIfInBounds_toArray, List.set_cons_zero, List.set_cons_succ]
        change wpAnyH _ _ _ _ _ 9 #[true, true, true, true, true, true, true, true, true, true, true, true, true, true, true, true, true, true, false, false, false, false, false, false, false, false, false] _ _
        refine wpAnyH_take (i := 18) (v := .bool true) rfl (by kernel_rfl) (by kernel_rfl) (by kernel_rfl) (fun _ _ _ h => h) (Or.inl ⟨by kernel_rfl, fun w hSw => by go_simp <;> (first | exact beq_iff_eq.1 (by assumption) | exact beq_eq_false_iff_ne.1 (by assumption) | omega)⟩) hHeld0 ?_
        simp only [Act.put, List.getElem_toArray, List.getElem_cons_succ, List.getElem_cons_zero, List.setIfInBounds_toArray, List.set_cons_zero, List.set_cons_succ]
        change wpAnyH _ _ _ _ _ 8 #[true, true, true, true, true, true, true, true, true, true, true, true, true, true, true, true, true, true, true, false, false, false, false, false, false, false, false] _ _
        refine wpAnyH_take (i := 19) (v := .bool true) rfl (by kernel_rfl) (by kernel_rfl) (by kernel_rfl) (fun _ _ _ h => h) (Or.inl ⟨by kernel_rfl, fun w hSw => by first | kernel_rfl | (go_simp; done)⟩) hHeld0 ?_
        simp only [Act.put, List.getElem_toArray, List.getElem_cons_succ, List.getElem_cons_zero, List.setIfInBounds_toArray, List.set_cons_zero, List.set_cons_succ]
        change wpAnyH _ _ _ _ _ 7 #[true, true, true, true, true, true, true, true, true, true, true, true, true, true, true, true, true, true, true, true, false, false, false, false, false, false, false] _ _
        refine wpAnyH_take (i := 20) (v := .int .i64 (k : Int)) rfl (by kernel_rfl) (by kernel_rfl) (by kernel_rfl) (fun _ _ _ h => h) (Or.inl ⟨by kernel_rfl, fun w hSw => by first | kernel_rfl | (go_simp; done)⟩) hHeld0 ?_
        simp only [Act.put, List.getElem_toArray, List.getElem_cons_succ, List.getElem_cons_zero, List.setIfInBounds_toArray, List.set_cons_zero, List.set_cons_succ]
        change wpAnyH _ _ _ _ _ 6 #[true, true, true, true, true, true, true, true, true, true, true, true, true, true, true, true, true, true, true, true, true, false, false, false, false, false, false] _ _
        refine wpAnyH_take (i := 21) (v := .pointer (some ⟨G2, k * 34, none⟩)) rfl (by kernel_rfl) (by kernel_rfl) (by kernel_rfl) (fun _ _ _ h => h) (Or.inl ⟨by kernel_rfl, fun w hSw => by have h3 := hk3; go_simp <;> omega⟩) hHeld0 ?_
        simp only [Act.put, List.getElem_toArray, List.getElem_cons_succ, List.getElem_cons_zero, List.setIfInBounds_toArray, List.set_cons_zero, List.set_cons_succ]
        change wpAnyH _ _ _ _ _ 5 #[true, true, true, true, true, true, true, true, true, true, true, true, true, true, true, true, true, true, true, true, true, true, false, false, false, false, false] _ _
        refine wpAnyH_take (i := 22) (v := .agg (el ls k).pc.toArray) rfl (by kernel_rfl) (by kernel_rfl) (by kernel_rfl) (fun _ _ _ h => h) (yieldsIf_load_mid (by kernel_rfl) 26 _ rfl G2 (k * 34) rfl (el ls k).pc _ (fun W h => HGO.out W (Held.a0 h)) Tryd.underlying26 rfl HIK.out) hHeld0 ?_
        simp only [Act.put, List.getElem_toArray, List.getElem_cons_succ, List.getElem_cons_zero, List.setIfInBounds_toArray, List.set_cons_zero, List.set_cons_succ]
        change wpAnyH _ _ _ _ _ 4 #[true, true, true, true, true, true, true, true, true, true, true, true, true, true, true, true, true, true, true, true, true, true, true, false, false, false, false] _ _
        refine wpAnyH_ready (rs := [23]) (by kernel_rfl) (by simp) ?_
        refine AllReadyH.cons rfl (fun K hK => ?_) AllReadyH.nil
        simp only [List.getElem_toArray, List.getElem_cons_succ, List.getElem_cons_zero]
        refine (if_pos (by kernel_rfl)).mpr ?_
        go_wp2_with fail
        refine (rhole_calls _).mono ?_
        rintro e wx0 ⟨rfl, hfx0⟩
        dsimp only
        refine hK.out _ _ (Held.keep hfx0 hHeld0) (fun hHeld1 => ?_)
        clear hK K hHeld0
        change wpAnyH _ _ _ _ _ 3 #[true, true, true, true, true, true, true, true, true, true, true, true, true, true, true, true, true, true, true, true, true, true, true, true, false, false, false] _ _
        refine wpAnyH_take (i := 24) (v := .bool false) rfl (by kernel_rfl) (by kernel_rfl) (by kernel_rfl) (fun _ _ _ h => h) (Or.inl ⟨by kernel_rfl, fun w hSw => run_neq_op (b := true) rfl rfl rfl guard_p heqk w⟩) hHeld1 ?_
        simp only [Act.put, List.getElem_toArray, List.getElem_cons_succ, List.getElem_cons_zero, List.setIfInBounds_toArray, List.set_cons_zero, List.set_cons_succ]
        change wpAnyH _ _ _ _ _ 2 #[true, true, true, true, true, true, true, true, true, true, true, true, true, true, true, true, true, true, true, true, true, true, true, true, true, false, false] _ _
        refine wpAnyH_take (i := 25) (v := .bool false) rfl (by kernel_rfl) (by kernel_rfl) (by kernel_rfl) (fun _ _ _ h => h) (Or.inl ⟨by kernel_rfl, fun w hSw => by first | kernel_rfl | (go_simp; done)⟩) hHeld1 ?_
        simp only [Act.put, List.getElem_toArray, List.getElem_cons_succ, List.getElem_cons_zero, List.setIfInBounds_toArray, List.set_cons_zero, List.set_cons_succ]
        change wpAnyH _ _ _ _ _ 1 #[true, true, true, true, true, true, true, true, true, true, true, true, true, true, true, true, true, true, true, true, true, true, true, true, true, true, false] _ _
        refine wpAnyH_take (i := 26) (v := .bool false) rfl (by kernel_rfl) (by kernel_rfl) (by kernel_rfl) (fun _ _ _ h => h) (Or.inl ⟨by kernel_rfl, fun w hSw => by first | kernel_rfl | (go_simp; done)⟩) hHeld1 ?_
        simp only [Act.put, List.getElem_toArray, List.getElem_cons_succ, List.getElem_cons_zero, List.setIfInBounds_toArray, List.set_cons_zero, List.set_cons_succ]
        change wpAnyH _ _ _ _ _ 0 #[true, true, true, true, true, true, true, true, true, true, true, true, true, true, true, true, true, true, true, true, true, true, true, true, true, true, true] _ _
        refine wpAnyH_done (by kernel_rfl) ?_ _
        refine NoPanic.normal ?_
        have HFIN := Lib.hid (Held.f hHeld1)
        have HEND := Lib.hid hHeld1
        clear hHeld1
        have HG8 := Lib.hid (Held.a0 HEND.out)
        clear c8 c7 heqk
        go_wp2
        exact ⟨⟨k + 1, by have := HLT.out; omega, by go_num, HG8.out, HFIN.out⟩, by have := HLT.out; simp [intOf]; omega⟩
    · have c9 : decide ((k : Int) < 3) = false := decide_eq_false (by omega)
      clear hlt hk
      go_wp2_with fail
      refine (HCP.out _ HR_wr.out).mono ?_
      rintro e v1 ⟨g, cap, cur, rfl, hge, hown, hf⟩
      have HF_v1 := Lib.hid (HF_wr.out.then0 hf)
      have HD_v1 := Lib.hid (HD_wr.out.later hf (fun _ _ h => h))
      have HR_v1 := Lib.hid (HR_wr.out.later hf (fun _ _ h => h))
      have HO_v1 := Lib.hid hown
      have HGE : Hid (w.heap.size ≤ g) := Lib.hid (Nat.le_trans HF_wr.out.size hge)
      clear hf hown hge
      go_wp2_with (first | (refine wpList_load_mid rfl 26 _ rfl b0 o0 rfl (el ls 0).pc _ (HRG.out _ HD_v1.out) Tryd.underlying26 rfl HIV.out ?_) | (go_at_call 23; (with_reducible refine (HPU.out _ g cap cur HO_v1.out).mono ?_); rintro e v2 ⟨rfl, ⟨cur2, ho2⟩, hf2⟩; have HO_v2 := Lib.hid ho2; have HF_v2 : Hid (Fr0 w v2) := Lib.hid (HF_v1.out.then hf2 (fun i hi e => by have := HGE.out; omega)); have HD_v2 : Hid (RdV v2 (some ⟨b0, o0, none⟩) ls) := Lib.hid (RdV.past HD_w0.out HD_v1.out hf2 (fun b hb e => by have := HGE.out; omega)); have HR_v2 : Hid (Rd v2 a0 l) := Lib.hid (Rd.past HR_w0.out HR_v1.out hf2 (fun b hb e => by have := HGE.out; omega)); clear ho2 hf2) | (go_at_call 21; (with_reducible refine (HTK.out _ g cap cur2 HO_v2.out).mono ?_); rintro e v3 ⟨rfl, hf⟩; have HF_v3 := Lib.hid (HF_v2.out.then0 hf); have HD_v3 := Lib.hid (HD_v2.out.later hf (fun _ _ h => h)); have HZ_v3 : Hid (Bk (v3.alloc (.cells ZERO 26)) v3.heap.size ZERO 26) := Lib.hid (Bk.new _ _); clear hf) | (refine wpList_store_row rfl 26 _ _ rfl v3.heap.size (el ls 0).pc.toArray rfl rfl 26 ZERO HZ_v3.out HIVa.out HZV.out HVO.out ?_; change wpList _ _ _ _ _ ((v3.alloc (.cells ZERO 26)).setRow v3.heap.size (el ls 0).pc.toArray); have hfx : Fr0 v3 ((v3.alloc (.cells ZERO 26)).setRow v3.heap.size (el ls 0).pc.toArray) := ArrKit.Fr.row (Fr.alloc (Fr.refl _ _) _) _ _ (.inl (Nat.le_refl _)); have HJ_v4 : Hid (Bk ((v3.alloc (.cells ZERO 26)).setRow v3.heap.size (el ls 0).pc.toArray) v3.heap.size (el ls 0).pc.toArray 26) := Lib.hid (ArrKit.Bk.row HZ_v3.out _); have HF_v4 := Lib.hid (HF_v3.out.then0 hfx); have HD_v4 := Lib.hid (HD_v3.out.later hfx (fun _ _ h => h)); clear hfx; generalize ((v3.alloc (.cells ZERO 26)).setRow v3.heap.size (el ls 0).pc.toArray) = v4 at *; generalize v3.heap.size = J at *))
      obtain ⟨ob, hob⟩ : ∃ ob, v4.heap[b0]? = some ob := ⟨_, Array.getElem?_eq_getElem (World.block_lt_of_cell? v4 _ (HRG.out _ HD_v4.out 0 (.int .i64 (el ls 0).a) rfl))⟩
      have HRO : Hid (∀ W : World, W.heap[b0]? = some ob → W.rangeAt b0 o0 (el ls 0).pc) := Lib.hid (fun W h j u hj => by
        have := HRG.out _ HD_v4.out j u hj
        simp only [World.cell?, hob, h] at this ⊢
        exact this)
      have H4 : Hid (Held w [(J, .cells (el ls 0).pc.toArray 26 (0, 0)), (b0, ob)] v4) := Lib.hid (Held.cons HJ_v4.out (Held.cons hob (Held.nil HF_v4.out)))
      clear hob
      refine wp_region_noPanic ?_
      refine wp_region_held_drew (S := (Held w [(J, .cells (el ls 0).pc.toArray 26 (0, 0)), (b0, ob)])) (by kernel_rfl) (Held.drew H4.out) (fun hHeld0 => ?_)
      change wpAnyH _ _ _ _ _ 10 #[false, false, false, false, false, false, false, false, false, false] _ _
      refine wpAnyH_take (i := 0) (v := .int .i64 0) rfl (by kernel_rfl) (by kernel_rfl) (by kernel_rfl) (fun _ _ _ h => h) (Or.inl ⟨by kernel_rfl, fun w hSw => by first | kernel_rfl | (go_simp; done)⟩) hHeld0 ?_
      simp only [Act.put, List.getElem_toArray, List.getElem_cons_succ, List.getElem_cons_zero, List.setIfInBounds_toArray, List.set_cons_zero, List.set_cons_succ]
      change wpAnyH _ _ _ _ _ 9 #[true, false, false, false, false, false, false, false, false, false] _ _
      refine wpAnyH_take (i := 1) (v := .bool true) rfl (by kernel_rfl) (by kernel_rfl) (by kernel_rfl) (fun _ _ _ h => h) (Or.inl ⟨by kernel_rfl, fun w hSw => by go_simp <;> (first | exact beq_iff_eq.1 (by assumption) | exact beq_eq_false_iff_ne.1 (by assumption) | omega)⟩) hHeld0 ?_
      simp only [Act.put, List.getElem_toArray, List.getElem_cons_succ, List.getElem_cons_zero, List.setIfInBounds_toArray, List.set_cons_zero, List.set_cons_succ]
      change wpAnyH _ _ _ _ _ 8 #[true, true, false, false, false, false, false, false, false, false] _ _
      refine wpAnyH_take (i := 2) (v := .bool true) rfl (by kernel_rfl) (by kernel_rfl) (by kernel_rfl) (fun _ _ _ h => h) (Or.inl ⟨by kernel_rfl, fun w hSw => by first | kernel_rfl | (go_simp; done)⟩) hHeld0 ?_
      simp only [Act.put, List.getElem_toArray, List.getElem_cons_succ, List.getElem_cons_zero, List.setIfInBounds_toArray, List.set_cons_zero, List.set_cons_succ]
      change wpAnyH _ _ _ _ _ 7 #[true, true, true, false, false, false, false, false, false, false] _ _
      refine wpAnyH_take (i := 3) (v := .agg (el ls 0).pc.toArray) rfl (by kernel_rfl) (by kernel_rfl) (by kernel_rfl) (fun _ _ _ h => h) (yields_row (by kernel_rfl) 26 _ rfl (J) rfl 26 (el ls 0).pc.toArray (0, 0) _ (fun w h => Held.a0 h) Tryd.underlying26 rfl HIVa.out) hHeld0 ?_
      simp only [Act.put, List.getElem_toArray, List.getElem_cons_succ, List.getElem_cons_zero, List.setIfInBounds_toArray, List.set_cons_zero, List.set_cons_succ]
      change wpAnyH _ _ _ _ _ 6 #[true, true, true, true, false, false, false, false, false, false] _ _
      refine wpAnyH_take (i := 4) (v := .slice (some ⟨b0, o0, none⟩) n c) rfl (by kernel_rfl) (by kernel_rfl) (by kernel_rfl) (fun _ _ _ h => h) (Or.inl ⟨by kernel_rfl, fun w hSw => by first | kernel_rfl | (go_simp; done)⟩) hHeld0 ?_
      simp only [Act.put, List.getElem_toArray, List.getElem_cons_succ, List.getElem_cons_zero, List.setIfInBounds_toArray, List.set_cons_zero, List.set_cons_succ]
      change wpAnyH _ _ _ _ _ 5 #[true, true, true, true, true, false, false, false, false, false] _ _
      refine wpAnyH_take (i := 5) (v := .pointer (some ⟨b0, o0, none⟩)) rfl (by kernel_rfl) (by kernel_rfl) (by kernel_rfl) (fun _ _ _ h => h) (Or.inl ⟨by kernel_rfl, fun w hSw => by go_simp; intro hn0; omega⟩) hHeld0 ?_
      simp only [Act.put, List.getElem_toArray, List.getElem_cons_succ, List.getElem_cons_zero, List.setIfInBounds_toArray, List.set_cons_zero, List.set_cons_succ]
      change wpAnyH _ _ _ _ _ 4 #[true, true, true, true, true, true, false, false, false, false] _ _
      refine wpAnyH_take (i := 6) (v := .agg (el ls 0).pc.toArray) rfl (by kernel_rfl) (by kernel_rfl) (by kernel_rfl) (fun _ _ _ h => h) (yieldsIf_load_mid (by kernel_rfl) 26 _ rfl b0 o0 rfl (el ls 0).pc _ (fun W h => HRO.out W (Held.a0 (Held.tl h))) Tryd.underlying26 rfl HIV.out) hHeld0 ?_
      simp only [Act.put, List.getElem_toArray, List.getElem_cons_succ, List.getElem_cons_zero, List.setIfInBounds_toArray, List.set_cons_zero, List.set_cons_succ]
      change wpAnyH _ _ _ _ _ 3 #[true, true, true, true, true, true, true, false, false, false] _ _
      refine wpAnyH_take (i := 7) (v := .bool true) rfl (by kernel_rfl) (by kernel_rfl) (by kernel_rfl) (fun _ _ _ h => h) (Or.inl ⟨by kernel_rfl, fun w hSw => run_eql_op rfl rfl rfl guard_p heqv w⟩) hHeld0 ?_
      simp only [Act.put, List.getElem_toArray, List.getElem_cons_succ, List.getElem_cons_zero, List.setIfInBounds_toArray, List.set_cons_zero, List.set_cons_succ]
      change wpAnyH _ _ _ _ _ 2 #[true, true, true, true, true, true, true, true, false, false] _ _
      refine wpAnyH_take (i := 8) (v := .bool true) rfl (by kernel_rfl) (by kernel_rfl) (by kernel_rfl) (fun _ _ _ h => h) (Or.inl ⟨by kernel_rfl, fun w hSw => by first | kernel_rfl | (go_simp; done)⟩) hHeld0 ?_
      simp only [Act.put, List.getElem_toArray, List.getElem_cons_succ, List.getElem_cons_zero, List.setIfInBounds_toArray, List.set_cons_zero, List.set_cons_succ]
      change wpAnyH _ _ _ _ _ 1 #[true, true, true, true, true, true, true, true, true, false] _ _
      refine wpAnyH_take (i := 9) (v := .bool true) rfl (by kernel_rfl) (by kernel_rfl) (by kernel_rfl) (fun _ _ _ h => h) (Or.inl ⟨by kernel_rfl, fun w hSw => by first | kernel_rfl | (go_simp; done)⟩) hHeld0 ?_
      simp only [Act.put, List.getElem_toArray, List.getElem_cons_succ, List.getElem_cons_zero, List.setIfInBounds_toArray, List.set_cons_zero, List.set_cons_succ]
      change wpAnyH _ _ _ _ _ 0 #[true, true, true, true, true, true, true, true, true, true] _ _
      refine wpAnyH_done (by kernel_rfl) ?_ _
      refine NoPanic.normal ?_
      have HFIN := Lib.hid (Held.f hHeld0)
      have HEND := Lib.hid hHeld0
      clear hHeld0
      go_wp2_with fail
      all_goals go_ret
      exact ⟨by first | rfl | kernel_rfl, HFIN.out⟩

set_option maxHeartbeats 2000000 in
set_option maxRecDepth 100000 in
theorem back_b_zero (A0 : Option Addr) (n c : Nat) (ls : List V3) (a0 : Option Addr) (m cm : Nat) (l : List UInt8) (p : Int) (w : World) (hl : ls.length = n) (hrd : RdV w A0 ls) (hok : ∀ v ∈ ls, v.ok) (hc : n ≤ c) (hcm : c ≤ 9223372036854775807) (hn : n ≤ 140737488351232) (hll : l.length = m) (hrl : Rd w a0 l) (hm : m ≤ 140737488351232) {tk tb : TypeId} (hK : Bk w 1 KC tk) (hB : Bk w 0 HB8 tb) (hno : nodeOK ls = true) (h0 : n ≤ 0) :
    Calls Tryd.prog 8 #[.slice A0 n c, .slice a0 m cm, .int .i64 p] w fun e w' => e = .returned (.bool true) ∧ Fr0 w w' := by
  have HNO : Hid (∀ W : World, RdV W A0 ls → Calls Tryd.prog 26 #[.slice A0 n c] W fun e w' => e = .returned (.tuple #[.agg (nodeX ls), .int .i64 (nodeE ls)]) ∧ Fr0 W w') := Lib.hid (fun W h => node_calls A0 n c ls W hl h hok hc hcm hn)
  have HIN : Hid ((Tryd.prog.info? 22).map (·.size) = some (nodeX ls).size) := Lib.hid (by rw [infoB, nodeX_size hok])
  have HZN : Hid (ZA.size = (nodeX ls).size) := Lib.hid ((show ZA.size = 128 by simp [ZA, Z128]).trans (nodeX_size hok).symm)
  have HON := Lib.hid (nodeX_one hok)
  have HCP : Hid (∀ W : World, Rd W a0 l → Calls Tryd.prog 20 #[.slice a0 m cm] W (CopyPost m l W)) := Lib.hid (fun W h => copy_calls a0 m cm l W hll h hm)
  have hz : ∀ W, (zeroValue 22).run Tryd.prog W = .ok (.agg ZA) W := by intro W; kernel_rfl
  have hz3 : ∀ W, (zeroValue 46).run Tryd.prog W = .ok (.agg ZERO3) W := by intro W; kernel_rfl
  have HF_w0 : Hid (Fr0 w w) := Lib.hid (Fr.refl _ _)
  have HD_w0 := Lib.hid hrd
  have HR_w0 := Lib.hid hrl
  have HK_w0 := Lib.hid hK
  have HB_w0 := Lib.hid hB
  have HL := Lib.hid hl
  have HLL := Lib.hid hll
  have HOK := Lib.hid hok
  have hE : nodeE ls = 0 := by rw [nodeE, hno]; rfl
  have hX : nodeX ls = ((nodeL ls).map B).toArray := by rw [nodeX, hno]; rfl
  have hnr : nodeR ls 3 = true := by
    unfold nodeOK at hno
    rw [Bool.and_eq_true] at hno
    exact hno.2
  have hL3 := partsL_node hok hnr
  have HPA : Hid (∀ W : World, Calls Tryd.prog 28 #[.agg (nodeX ls)] W fun e w' => e = .returned (.tuple #[.agg (partsL (nodeL ls) 3).toArray, .int .i64 0]) ∧ Fr0 W w') := Lib.hid (fun W => by
    have := parts_all (nodeL ls) W (nodeL_length hok)
    rw [partsX, partsE, parts_node hok hnr] at this
    rw [hX]
    exact this)
  have hPl := partsL_length (nodeL_length hok) 3 (Nat.le_refl _)
  have HIP : Hid ((Tryd.prog.info? 46).map (·.size) = some (partsL (nodeL ls) 3).toArray.size) := Lib.hid (by rw [info3, List.size_toArray, hPl])
  have HZP : Hid (ZERO3.size = (partsL (nodeL ls) 3).toArray.size) := Lib.hid (ZERO3_size.trans (by rw [List.size_toArray, hPl]))
  have HOP : Hid ((partsL (nodeL ls) 3).toArray.all (·.oneCell') = true) := Lib.hid (by simp [partsL, V3.pc, PC, B, Value.oneCell'])
  have HGT : Hid (∀ k, k < 3 → ∀ j u, (el ls k).pc[j]? = some u → (partsL (nodeL ls) 3).toArray[k * 34 + j]? = some u) := Lib.hid (fun k hk j u hj => by
    have l0 := pc_length (el_ok hok 0)
    have l1 := pc_length (el_ok hok 1)
    have hjl : j < (el ls k).pc.length := (List.getElem?_eq_some_iff.1 hj).1
    rw [pc_length (el_ok hok k)] at hjl
    rw [List.getElem?_toArray, hL3]
    rcases (show k = 0 ∨ k = 1 ∨ k = 2 by omega) with rfl | rfl | rfl
    · rw [Nat.zero_mul, Nat.zero_add, List.getElem?_append_left (by omega)]; exact hj
    · rw [List.getElem?_append_right (by omega), List.getElem?_append_left (by rw [l0, l1]; omega), l0, show 1 * 34 + j - 34 = j by omega]; exact hj
    · rw [List.getElem?_append_right (by omega), List.getElem?_append_right (by rw [l0, l1]; omega), l0, l1, show 2 * 34 + j - 34 - 34 = j by omega]; exact hj)
  rw [hE] at HNO
  have hc0 : ((n : Int) == 0) = true := by rw [beq_iff_eq]; omega
  clear hl hrd hok hll hrl hK hB hE hno hX hnr hL3 hPl
  go_enter Tryd.func8, Tryd.ntmps8
  go_wp2_with (first | (go_at_call 9; (with_reducible refine (alive_calls _ HK_w0.out HB_w0.out).mono ?_); rintro e w1 ⟨rfl, hf⟩; have HF_w1 := Lib.hid (HF_w0.out.then0 hf); have HD_w1 := Lib.hid (HD_w0.out.later hf (fun _ _ h => h)); have HR_w1 := Lib.hid (HR_w0.out.later hf (fun _ _ h => h)); clear hf) | (go_at_call 26; (with_reducible refine (HNO.out _ HD_w1.out).mono ?_); rintro e w2 ⟨rfl, hf⟩; have HF_w2 := Lib.hid (HF_w1.out.then0 hf); have HD_w2 := Lib.hid (HD_w1.out.later hf (fun _ _ h => h)); have HR_w2 := Lib.hid (HR_w1.out.later hf (fun _ _ h => h)); have HZ_w2 : Hid (Bk (w2.alloc (.cells ZA 22)) w2.heap.size ZA 22) := Lib.hid (Bk.new _ _); clear hf) | (refine wpList_store_row rfl 22 _ _ rfl w2.heap.size (nodeX ls) rfl rfl 22 ZA HZ_w2.out HIN.out HZN.out HON.out ?_; change wpList _ _ _ _ _ ((w2.alloc (.cells ZA 22)).setRow w2.heap.size (nodeX ls)); have hfx : Fr0 w2 ((w2.alloc (.cells ZA 22)).setRow w2.heap.size (nodeX ls)) := ArrKit.Fr.row (Fr.alloc (Fr.refl _ _) _) _ _ (.inl (Nat.le_refl _)); have HG1_w3 : Hid (Bk ((w2.alloc (.cells ZA 22)).setRow w2.heap.size (nodeX ls)) w2.heap.size (nodeX ls) 22) := Lib.hid (ArrKit.Bk.row HZ_w2.out _); have HF_w3 := Lib.hid (HF_w2.out.then0 hfx); have HD_w3 := Lib.hid (HD_w2.out.later hfx (fun _ _ h => h)); have HR_w3 := Lib.hid (HR_w2.out.later hfx (fun _ _ h => h)); clear hfx; generalize ((w2.alloc (.cells ZA 22)).setRow w2.heap.size (nodeX ls)) = w3 at *; generalize w2.heap.size = G1 at *) | (refine wpList_load_row rfl 22 _ rfl G1 rfl 22 (nodeX ls) (0, 0) _ HG1_w3.out Tryd.underlying22 rfl HIN.out ?_) | (go_at_call 28; (with_reducible refine (HPA.out _).mono ?_); rintro e w4 ⟨rfl, hf⟩; have HF_w4 := Lib.hid (HF_w3.out.then0 hf); have HD_w4 := Lib.hid (HD_w3.out.later hf (fun _ _ h => h)); have HR_w4 := Lib.hid (HR_w3.out.later hf (fun _ _ h => h)); have HG1_w4 := Lib.hid (hf.keep HG1_w3.out (fun h => h)); have HZ_w4 : Hid (Bk (w4.alloc (.cells ZERO3 46)) w4.heap.size ZERO3 46) := Lib.hid (Bk.new _ _); clear hf) | (refine wpList_store_row rfl 46 _ _ rfl w4.heap.size (partsL (nodeL ls) 3).toArray rfl rfl 46 ZERO3 HZ_w4.out HIP.out HZP.out HOP.out ?_; change wpList _ _ _ _ _ ((w4.alloc (.cells ZERO3 46)).setRow w4.heap.size (partsL (nodeL ls) 3).toArray); have hfx : Fr0 w4 ((w4.alloc (.cells ZERO3 46)).setRow w4.heap.size (partsL (nodeL ls) 3).toArray) := ArrKit.Fr.row (Fr.alloc (Fr.refl _ _) _) _ _ (.inl (Nat.le_refl _)); have HG2_w5 : Hid (Bk ((w4.alloc (.cells ZERO3 46)).setRow w4.heap.size (partsL (nodeL ls) 3).toArray) w4.heap.size (partsL (nodeL ls) 3).toArray 46) := Lib.hid (ArrKit.Bk.row HZ_w4.out _); have HF_w5 := Lib.hid (HF_w4.out.then0 hfx); have HD_w5 := Lib.hid (HD_w4.out.later hfx (fun _ _ h => h)); have HR_w5 := Lib.hid (HR_w4.out.later hfx (fun _ _ h => h)); have HG1_w5 := Lib.hid (hfx.keep HG1_w4.out (fun h => h)); clear hfx; generalize ((w4.alloc (.cells ZERO3 46)).setRow w4.heap.size (partsL (nodeL ls) 3).toArray) = w5 at *; generalize w4.heap.size = G2 at *))
  have HFG : Hid (Fr0 w w5) := HF_w5
  go_loopw [11] (fun u wr => ∃ k : Nat, k ≤ 3 ∧ u = .int .i64 k ∧ Bk wr G2 (partsL (nodeL ls) 3).toArray 46 ∧ Fr0 w wr) (fun u _ => 3 - (intOf u).toNat)
  case atStart => exact ⟨0, by omega, rfl, HG2_w5.out, HF_w5.out⟩
  case round =>
    obtain ⟨k, hk, rfl, hgk, hfk⟩ := hrel
    have HGK := Lib.hid hgk
    have HF_wr := Lib.hid hfk
    have HD_wr : Hid (RdV wr A0 ls) := Lib.hid (HD_w0.out.later hfk (fun _ _ h => h))
    have HR_wr : Hid (Rd wr a0 l) := Lib.hid (HR_w0.out.later hfk (fun _ _ h => h))
    clear hgk hfk
    by_cases hlt : k < 3
    · have c9 : decide ((k : Int) < 3) = true := decide_eq_true (by omega)
      have hk3 : (k : Int) < 3 := by omega
      have HLT := Lib.hid hlt
      have hvk := el_ok HOK.out k
      have HIK : Hid ((Tryd.prog.info? 26).map (·.size) = some (el ls k).pc.length) := Lib.hid (by rw [info_p, pc_length hvk])
      have HGO : Hid (∀ W : World, W.heap[G2]? = some (.cells (partsL (nodeL ls) 3).toArray 46 (0, 0)) → W.rangeAt G2 (k * 34) (el ls k).pc) := Lib.hid (fun W h j u hj => by
        rw [Bk.cell h]
        exact HGT.out k HLT.out j u hj)
      clear hlt hk
      · have hkn' : ¬ k < n := by omega
        have c8 : decide (k < n) = false := decide_eq_false hkn'
        have c7 : decide (n ≤ k) = true := decide_eq_true (by omega)
        have hel : el ls k = hol := el_out (by rw [HL.out]; omega)
        have heqk : ∀ W, (Op.equalIn 10000 26 (.agg (el ls k).pc.toArray) (.agg HOLE)).run Tryd.prog W = .ok true W := by rw [hel]; exact eq_self (-1) (-1) Z Z_len (by decide) (by decide)
        have H7 : Hid (Held w [(G2, .cells (partsL (nodeL ls) 3).toArray 46 (0, 0))] wr) := Lib.hid (Held.cons HGK.out (Held.nil HF_wr.out))
        clear hvk hel
        go_wp2_with fail
        refine wp_region_noPanic ?_
        refine wp_region_held_drew (S := (Held w [(G2, .cells (partsL (nodeL ls) 3).toArray 46 (0, 0))])) (by kernel_rfl) (Held.drew H7.out) (fun hHeld0 => ?_)
        change wpAnyH _ _ _ _ _ 27 #[false, false, false, false, false, false, false, false, false, false, false, false, false, false, false, false, false, false, false, false, false, false, false, false, false, false, false] _ _
        refine wpAnyH_take (i := 0) (v := .int .i64 (k : Int)) rfl (by kernel_rfl) (by kernel_rfl) (by kernel_rfl) (fun _ _ _ h => h) (Or.inl ⟨by kernel_rfl, fun w hSw => by first | kernel_rfl | (go_simp; done)⟩) hHeld0 ?_
        simp only [Act.put, List.getElem_toArray, List.getElem_cons_succ, List.getElem_cons_zero, List.setIfInBounds_toArray, List.set_cons_zero, List.set_cons_succ]
        change wpAnyH _ _ _ _ _ 26 #[true, false, false, false, false, false, false, false, false, false, false, false, false, false, false, false, false, false, false, false, false, false, false, false, false, false, false] _ _
        refine wpAnyH_take (i := 1) (v := .slice A0 n c) rfl (by kernel_rfl) (by kernel_rfl) (by kernel_rfl) (fun _ _ _ h => h) (Or.inl ⟨by kernel_rfl, fun w hSw => by first | kernel_rfl | (go_simp; done)⟩) hHeld0 ?_
        simp only [Act.put, List.getElem_toArray, List.getElem_cons_succ, List.getElem_cons_zero, List.setIfInBounds_toArray, List.set_cons_zero, List.set_cons_succ]
        change wpAnyH _ _ _ _ _ 25 #[true, true, false, false, false, false, false, false, false, false, false, false, false, false, false, false, false, false, false, false, false, false, false, false, false, false, false] _ _
        refine wpAnyH_take (i := 2) (v := .int .i64 (n : Int)) rfl (by kernel_rfl) (by kernel_rfl) (by kernel_rfl) (fun _ _ _ h => h) (Or.inl ⟨by kernel_rfl, fun w hSw => by first | kernel_rfl | (go_simp; done)⟩) hHeld0 ?_
        simp only [Act.put, List.getElem_toArray, List.getElem_cons_succ, List.getElem_cons_zero, List.setIfInBounds_toArray, List.set_cons_zero, List.set_cons_succ]
        change wpAnyH _ _ _ _ _ 24 #[true, true, true, false, false, false, false, false, false, false, false, false, false, false, false, false, false, false, false, false, false, false, false, false, false, false, false] _ _
        refine wpAnyH_take (i := 3) (v := .bool false) rfl (by kernel_rfl) (by kernel_rfl) (by kernel_rfl) (fun _ _ _ h => h) (Or.inl ⟨by kernel_rfl, fun w hSw => by go_simp <;> (first | exact beq_iff_eq.1 (by assumption) | exact beq_eq_false_iff_ne.1 (by assumption) | omega)⟩) hHeld0 ?_
        simp only [Act.put, List.getElem_toArray, List.getElem_cons_succ, List.getElem_cons_zero, List.setIfInBounds_toArray, List.set_cons_zero, List.set_cons_succ]
        change wpAnyH _ _ _ _ _ 23 #[true, true, true, true, false, false, false, false, false, false, false, false, false, false, false, false, false, false, false, false, false, false, false, false, false, false, false] _ _
        refine wpAnyH_take (i := 4) (v := .bool false) rfl (by kernel_rfl) (by kernel_rfl) (by kernel_rfl) (fun _ _ _ h => h) (Or.inl ⟨by kernel_rfl, fun w hSw => by first | kernel_rfl | (go_simp; done)⟩) hHeld0 ?_
        simp only [Act.put, List.getElem_toArray, List.getElem_cons_succ, List.getElem_cons_zero, List.setIfInBounds_toArray, List.set_cons_zero, List.set_cons_succ]
        change wpAnyH _ _ _ _ _ 22 #[true, true, true, true, true, false, false, false, false, false, false, false, false, false, false, false, false, false, false, false, false, false, false, false, false, false, false] _ _
        refine wpAnyH_take (i := 5) (v := undef) rfl (by kernel_rfl) (by kernel_rfl) (by kernel_rfl) (fun _ _ _ h => h) (Or.inr ⟨by kernel_rfl, rfl⟩) hHeld0 ?_
        simp only [Act.put, List.getElem_toArray, List.getElem_cons_succ, List.getElem_cons_zero, List.setIfInBounds_toArray, List.set_cons_zero, List.set_cons_succ]
        change wpAnyH _ _ _ _ _ 21 #[true, true, true, true, true, true, false, false, false, false, false, false, false, false, false, false, false, false, false, false, false, false, false, false, false, false, false] _ _
        refine wpAnyH_take (i := 6) (v := undef) rfl (by kernel_rfl) (by kernel_rfl) (by kernel_rfl) (fun _ _ _ h => h) (Or.inr ⟨by kernel_rfl, rfl⟩) hHeld0 ?_
        simp only [Act.put, List.getElem_toArray, List.getElem_cons_succ, List.getElem_cons_zero, List.setIfInBounds_toArray, List.set_cons_zero, List.set_cons_succ]
        change wpAnyH _ _ _ _ _ 20 #[true, true, true, true, true, true, true, false, false, false, false, false, false, false, false, false, false, false, false, false, false, false, false, false, false, false, false] _ _
        refine wpAnyH_take (i := 7) (v := undef) rfl (by kernel_rfl) (by kernel_rfl) (by kernel_rfl) (fun _ _ _ h => h) (Or.inr ⟨by kernel_rfl, rfl⟩) hHeld0 ?_
        simp only [Act.put, List.getElem_toArray, List.getElem_cons_succ, List.getElem_cons_zero, List.setIfInBounds_toArray, List.set_cons_zero, List.set_cons_succ]
        change wpAnyH _ _ _ _ _ 19 #[true, true, true, true, true, true, true, true, false, false, false, false, false, false, false, false, false, false, false, false, false, false, false, false, false, false, false] _ _
        refine wpAnyH_take (i := 8) (v := undef) rfl (by kernel_rfl) (by kernel_rfl) (by kernel_rfl) (fun _ _ _ h => h) (Or.inr ⟨by kernel_rfl, rfl⟩) hHeld0 ?_
        simp only [Act.put, List.getElem_toArray, List.getElem_cons_succ, List.getElem_cons_zero, List.setIfInBounds_toArray, List.set_cons_zero, List.set_cons_succ]
        change wpAnyH _ _ _ _ _ 18 #[true, true, true, true, true, true, true, true, true, false, false, false, false, false, false, false, false, false, false, false, false, false, false, false, false, false, false] _ _
        refine wpAnyH_take (i := 9) (v := undef) rfl (by kernel_rfl) (by kernel_rfl) (by kernel_rfl) (fun _ _ _ h => h) (Or.inr ⟨by kernel_rfl, rfl⟩) hHeld0 ?_
        simp only [Act.put, List.getElem_toArray, List.getElem_cons_succ, List.getElem_cons_zero, List.setIfInBounds_toArray, List.set_cons_zero, List.set_cons_succ]
        change wpAnyH _ _ _ _ _ 17 #[true, true, true, true, true, true, true, true, true, true, false, false, false, false, false, false, false, false, false, false, false, false, false, false, false, false, false] _ _
        refine wpAnyH_take (i := 10) (v := undef) rfl (by kernel_rfl) (by kernel_rfl) (by kernel_rfl) (fun _ _ _ h => h) (Or.inr ⟨by kernel_rfl, rfl⟩) hHeld0 ?_
        simp only [Act.put, List.getElem_toArray, List.getElem_cons_succ, List.getElem_cons_zero, List.setIfInBounds_toArray, List.set_cons_zero, List.set_cons_succ]
        change wpAnyH _ _ _ _ _ 16 #[true, true, true, true, true, true, true, true, true, true, true, false, false, false, false, false, false, false, false, false, false, false, false, false, false, false, false] _ _
        refine wpAnyH_take (i := 11) (v := undef) rfl (by kernel_rfl) (by kernel_rfl) (by kernel_rfl) (fun _ _ _ h => h) (Or.inr ⟨by kernel_rfl, rfl⟩) hHeld0 ?_
        simp only [Act.put, List.getElem_toArray, List.getElem_cons_succ, List.getElem_cons_zero, List.setIfInBounds_toArray, List.set_cons_zero, List.set_cons_succ]
        change wpAnyH _ _ _ _ _ 15 #[true, true, true, true, true, true, true, true, true, true, true, true, false, false, false, false, false, false, false, false, false, false, false, false, false, false, false] _ _
        refine wpAnyH_take (i := 12) (v := undef) rfl (by kernel_rfl) (by kernel_rfl) (by kernel_rfl) (fun _ _ _ h => h) (Or.inr ⟨by kernel_rfl, rfl⟩) hHeld0 ?_
        simp only [Act.put, List.getElem_toArray, List.getElem_cons_succ, List.getElem_cons_zero, List.setIfInBounds_toArray, List.set_cons_zero, List.set_cons_succ]
        change wpAnyH _ _ _ _ _ 14 #[true, true, true, true, true, true, true, true, true, true, true, true, true, false, false, false, false, false, false, false, false, false, false, false, false, false, false] _ _
        refine wpAnyH_take (i := 13) (v := .bool false) rfl (by kernel_rfl) (by kernel_rfl) (by kernel_rfl) (fun _ _ _ h => h) (Or.inl ⟨by kernel_rfl, fun w hSw => by first | kernel_rfl | (go_simp; done)⟩) hHeld0 ?_
        simp only [Act.put, List.getElem_toArray, List.getElem_cons_succ, List.getElem_cons_zero, List.setIfInBounds_toArray, List.set_cons_zero, List.set_cons_succ]
        change wpAnyH _ _ _ _ _ 13 #[true, true, true, true, true, true, true, true, true, true, true, true, true, true, false, false, false, false, false, false, false, false, false, false, false, false, false] _ _
        refine wpAnyH_take (i := 14) (v := .bool false) rfl (by kernel_rfl) (by kernel_rfl) (by kernel_rfl) (fun _ _ _ h => h) (Or.inl ⟨by kernel_rfl, fun w hSw => by first | kernel_rfl | (go_simp; done)⟩) hHeld0 ?_
        simp only [Act.put, List.getElem_toArray, List.getElem_cons_succ, List.getElem_cons_zero, List.setIfInBounds_toArray, List.set_cons_zero, List.set_cons_succ]
        change wpAnyH _ _ _ _ _ 12 #[true, true, true, true, true, true, true, true, true, true, true, true, true, true, true, false, false, false, false, false, false, false, false, false, false, false, false] _ _
        refine wpAnyH_take (i := 15) (v := .int .i64 (k : Int)) rfl (by kernel_rfl) (by kernel_rfl) (by kernel_rfl) (fun _ _ _ h => h) (Or.inl ⟨by kernel_rfl, fun w hSw => by first | kernel_rfl | (go_simp; done)⟩) hHeld0 ?_
        simp only [Act.put, List.getElem_toArray, List.getElem_cons_succ, List.getElem_cons_zero, List.setIfInBounds_toArray, List.set_cons_zero, List.set_cons_succ]
        change wpAnyH _ _ _ _ _ 11 #[true, true, true, true, true, true, true, true, true, true, true, true, true, true, true, true, false, false, false, false, false, false, false, false, false, false, false] _ _
        refine wpAnyH_take (i := 16) (v := .slice A0 n c) rfl (by kernel_rfl) (by kernel_rfl) (by kernel_rfl) (fun _ _ _ h => h) (Or.inl ⟨by kernel_rfl, fun w hSw => by first | kernel_rfl | (go_simp; done)⟩) hHeld0 ?_
        simp only [Act.put, List.getElem_toArray, List.getElem_cons_succ, List.getElem_cons_zero, List.setIfInBounds_toArray, List.set_cons_zero, List.set_cons_succ]
        change wpAnyH _ _ _ _ _ 10 #[true, true, true, true, true, true, true, true, true, true, true, true, true, true, true, true, true, false, false, false, false, false, false, false, false, false, false] _ _
        refine wpAnyH_take (i := 17) (v := .int .i64 (n : Int)) rfl (by kernel_rfl) (by kernel_rfl) (by kernel_rfl) (fun _ _ _ h => h) (Or.inl ⟨by kernel_rfl, fun w hSw => by first | kernel_rfl | (go_simp; done)⟩) hHeld0 ?_
        simp only [Act.put, List.getElem_toArray, List.getElem_cons_succ, List.getElem_cons_zero, List.setIfInBounds_toArray, List.set_cons_zero, List.set_cons_succ]
        change wpAnyH _ _ _ _ _ 9 #[true, true, true, true, true, true, true, true, true, true, true, true, true, true, true, true, true, true, false, false, false, false, false, false, false, false, false] _ _
        refine wpAnyH_take (i := 18) (v := .bool true) rfl (by kernel_rfl) (by kernel_rfl) (by kernel_rfl) (fun _ _ _ h => h) (Or.inl ⟨by kernel_rfl, fun w hSw => by go_simp <;> (first | exact beq_iff_eq.1 (by assumption) | exact beq_eq_false_iff_ne.1 (by assumption) | omega)⟩) hHeld0 ?_
        simp only [Act.put, List.getElem_toArray, List.getElem_cons_succ, List.getElem_cons_zero, List.setIfInBounds_toArray, List.set_cons_zero, List.set_cons_succ]
        change wpAnyH _ _ _ _ _ 8 #[true, true, true, true, true, true, true, true, true, true, true, true, true, true, true, true, true, true, true, false, false, false, false, false, false, false, false] _ _
        refine wpAnyH_take (i := 19) (v := .bool true) rfl (by kernel_rfl) (by kernel_rfl) (by kernel_rfl) (fun _ _ _ h => h) (Or.inl ⟨by kernel_rfl, fun w hSw => by first | kernel_rfl | (go_simp; done)⟩) hHeld0 ?_
        simp only [Act.put, List.getElem_toArray, List.getElem_cons_succ, List.getElem_cons_zero, List.setIfInBounds_toArray, List.set_cons_zero, List.set_cons_succ]
        change wpAnyH _ _ _ _ _ 7 #[true, true, true, true, true, true, true, true, true, true, true, true, true, true, true, true, true, true, true, true, false, false, false, false, false, false, false] _ _
        refine wpAnyH_take (i := 20) (v := .int .i64 (k : Int)) rfl (by kernel_rfl) (by kernel_rfl) (by kernel_rfl) (fun _ _ _ h => h) (Or.inl ⟨by kernel_rfl, fun w hSw => by first | kernel_rfl | (go_simp; done)⟩) hHeld0 ?_
        simp only [Act.put, List.getElem_toArray, List.getElem_cons_succ, List.getElem_cons_zero, List.setIfInBounds_toArray, List.set_cons_zero, List.set_cons_succ]
        change wpAnyH _ _ _ _ _ 6 #[true, true, true, true, true, true, true, true, true, true, true, true, true, true, true, true, true, true, true, true, true, false, false, false, false, false, false] _ _
        refine wpAnyH_take (i := 21) (v := .pointer (some ⟨G2, k * 34, none⟩)) rfl (by kernel_rfl) (by kernel_rfl) (by kernel_rfl) (fun _ _ _ h => h) (Or.inl ⟨by kernel_rfl, fun w hSw => by have h3 := hk3; go_simp <;> omega⟩) hHeld0 ?_
        simp only [Act.put, List.getElem_toArray, List.getElem_cons_succ, List.getElem_cons_zero, List.setIfInBounds_toArray, List.set_cons_zero, List.set_cons_succ]
        change wpAnyH _ _ _ _ _ 5 #[true, true, true, true, true, true, true, true, true, true, true, true, true, true, true, true, true, true, true, true, true, true, false, false, false, false, false] _ _
        refine wpAnyH_take (i := 22) (v := .agg (el ls k).pc.toArray) rfl (by kernel_rfl) (by kernel_rfl) (by kernel_rfl) (fun _ _ _ h => h) (yieldsIf_load_mid (by kernel_rfl) 26 _ rfl G2 (k * 34) rfl (el ls k).pc _ (fun W h => HGO.out W (Held.a0 h)) Tryd.underlying26 rfl HIK.out) hHeld0 ?_
        simp only [Act.put, List.getElem_toArray, List.getElem_cons_succ, List.getElem_cons_zero, List.setIfInBounds_toArray, List.set_cons_zero, List.set_cons_succ]
        change wpAnyH _ _ _ _ _ 4 #[true, true, true, true, true, true, true, true, true, true, true, true, true, true, true, true, true, true, true, true, true, true, true, false, false, false, false] _ _
        refine wpAnyH_ready (rs := [23]) (by kernel_rfl) (by simp) ?_
        refine AllReadyH.cons rfl (fun K hK => ?_) AllReadyH.nil
        simp only [List.getElem_toArray, List.getElem_cons_succ, List.getElem_cons_zero]
        refine (if_pos (by kernel_rfl)).mpr ?_
        go_wp2_with fail
        refine (rhole_calls _).mono ?_
        rintro e wx0 ⟨rfl, hfx0⟩
        dsimp only
        refine hK.out _ _ (Held.keep hfx0 hHeld0) (fun hHeld1 => ?_)
        clear hK K hHeld0
        change wpAnyH _ _ _ _ _ 3 #[true, true, true, true, true, true, true, true, true, true, true, true, true, true, true, true, true, true, true, true, true, true, true, true, false, false, false] _ _
        refine wpAnyH_take (i := 24) (v := .bool false) rfl (by kernel_rfl) (by kernel_rfl) (by kernel_rfl) (fun _ _ _ h => h) (Or.inl ⟨by kernel_rfl, fun w hSw => run_neq_op (b := true) rfl rfl rfl guard_p heqk w⟩) hHeld1 ?_
        simp only [Act.put, List.getElem_toArray, List.getElem_cons_succ, List.getElem_cons_zero, List.setIfInBounds_toArray, List.set_cons_zero, List.set_cons_succ]
        change wpAnyH _ _ _ _ _ 2 #[true, true, true, true, true, true, true, true, true, true, true, true, true, true, true, true, true, true, true, true, true, true, true, true, true, false, false] _ _
        refine wpAnyH_take (i := 25) (v := .bool false) rfl (by kernel_rfl) (by kernel_rfl) (by kernel_rfl) (fun _ _ _ h => h) (Or.inl ⟨by kernel_rfl, fun w hSw => by first | kernel_rfl | (go_simp; done)⟩) hHeld1 ?_
        simp only [Act.put, List.getElem_toArray, List.getElem_cons_succ, List.getElem_cons_zero, List.setIfInBounds_toArray, List.set_cons_zero, List.set_cons_succ]
        change wpAnyH _ _ _ _ _ 1 #[true, true, true, true, true, true, true, true, true, true, true, true, true, true, true, true, true, true, true, true, true, true, true, true, true, true, false] _ _
        refine wpAnyH_take (i := 26) (v := .bool false) rfl (by kernel_rfl) (by kernel_rfl) (by kernel_rfl) (fun _ _ _ h => h) (Or.inl ⟨by kernel_rfl, fun w hSw => by first | kernel_rfl | (go_simp; done)⟩) hHeld1 ?_
        simp only [Act.put, List.getElem_toArray, List.getElem_cons_succ, List.getElem_cons_zero, List.setIfInBounds_toArray, List.set_cons_zero, List.set_cons_succ]
        change wpAnyH _ _ _ _ _ 0 #[true, true, true, true, true, true, true, true, true, true, true, true, true, true, true, true, true, true, true, true, true, true, true, true, true, true, true] _ _
        refine wpAnyH_done (by kernel_rfl) ?_ _
        refine NoPanic.normal ?_
        have HFIN := Lib.hid (Held.f hHeld1)
        have HEND := Lib.hid hHeld1
        clear hHeld1
        have HG8 := Lib.hid (Held.a0 HEND.out)
        clear c8 c7 heqk
        go_wp2
        exact ⟨⟨k + 1, by have := HLT.out; omega, by go_num, HG8.out, HFIN.out⟩, by have := HLT.out; simp [intOf]; omega⟩
    · have c9 : decide ((k : Int) < 3) = false := decide_eq_false (by omega)
      clear hlt hk
      go_wp2_with fail
      go_ret
      exact ⟨rfl, HF_wr.out⟩

theorem nodeOK_nil : nodeOK [] = true := by decide
theorem back_law (A0 : Option Addr) (n c : Nat) (ls : List V3) (a0 : Option Addr) (m cm : Nat) (l : List UInt8) (p : Int) (w : World) (hl : ls.length = n) (hrd : RdV w A0 ls) (hok : ∀ v ∈ ls, v.ok) (hc : n ≤ c) (hcm : c ≤ 9223372036854775807) (hn : n ≤ 140737488351232) (hll : l.length = m) (hrl : Rd w a0 l) (hm : m ≤ 140737488351232) {tk tb : TypeId} (hK : Bk w 1 KC tk) (hB : Bk w 0 HB8 tb) : Calls Tryd.prog 8 #[.slice A0 n c, .slice a0 m cm, .int .i64 p] w fun e w' => e = .returned (.bool true) ∧ Fr0 w w' := by
  by_cases h0 : 0 < n
  · cases hno : nodeOK ls with
    | false =>
      cases hk2 : okPut m p (el ls 0).a (el ls 0).b (el ls 0).s with
      | false => exact back_a_false A0 n c ls a0 m cm l p w hl hrd hok hc hcm hn hll hrl hm hK hB hno h0 hk2
      | true => exact back_a_true A0 n c ls a0 m cm l p w hl hrd hok hc hcm hn hll hrl hm hK hB hno h0 hk2
    | true =>
      cases hk2 : okPut m p (el ls 0).a (el ls 0).b (el ls 0).s with
      | false => exact back_b_false A0 n c ls a0 m cm l p w hl hrd hok hc hcm hn hll hrl hm hK hB hno h0 hk2
      | true => exact back_b_true A0 n c ls a0 m cm l p w hl hrd hok hc hcm hn hll hrl hm hK hB hno h0 hk2
  · have hnil : ls = [] := List.eq_nil_of_length_eq_zero (by omega)
    exact back_b_zero A0 n c ls a0 m cm l p w hl hrd hok hc hcm hn hll hrl hm hK hB (by rw [hnil]; exact nodeOK_nil) (by omega)

end Go.Proofs.YtjkaenhopkigdaaDoor.PtrBackLaw
