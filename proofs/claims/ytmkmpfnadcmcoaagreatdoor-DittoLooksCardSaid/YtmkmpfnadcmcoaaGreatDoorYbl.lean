/- The theorems that the claim uses, text behind text (part 38). -/
import Derived.Test.YtmkmpfnadcmcoaaGreatDoorYaa
import Derived.Test.YtmkmpfnadcmcoaaGreatDoorYao
import Derived.Test.YtmkmpfnadcmcoaaGreatDoorYav
import Derived.Test.YtmkmpfnadcmcoaaGreatDoorYbj
import Derived.Test.YtmkmpfnadcmcoaaGreatDoorYbk
set_option maxRecDepth 100000
set_option maxHeartbeats 8000000
set_option linter.unusedVariables false
set_option linter.unusedSimpArgs false
namespace Go.Proofs.YtmkmpfnadcmcoaaGreatDoor.DitLooksLaw
open Go Go.RowKit K EqKit ArrKit HeldKit GKit GRow DiskKit RmKit MapKit DiskNew RmRight RmRRight RmTab RmPut RmRPut RmAsk RmSame DiskCopy DiskTwins DiskSame DiskSameB DiskRRead RmRead RmReads RmAliveP RmGreat DiskAct RmSpare RmKeep RmFirst RmWrX RmWrite RmPair PtrKit DitKit DitHome DitGet DitLook DitRLook DitAlive
theorem cutH {α : Type} {P : Program} {md : Region.Mode} {ops : Array Oper} {Q : Exit → Act → World → Prop} {S : World → Prop} {fuel : Nat} {listed : Array Bool} {a : Act} {w : World} (n2 : Nat) (l2 : Array Bool) (pre : α → Prop) (act : α → Act) (wr : α → World)
  (h1 : ∀ x, pre x → wpAnyH P md ops Q S n2 l2 (act x) (wr x)) (h2 : (∀ x, pre x → wpAnyH P md ops Q S n2 l2 (act x) (wr x)) → wpAnyH P md ops Q S fuel listed a w) : wpAnyH P md ops Q S fuel listed a w := h2 h1

theorem same_rp (x y z : Int) (w : World) : Calls Tryz.prog 15 #[.agg (RP x y z), .agg (RP x y z)] w fun e w' => e = .returned (.bool true) ∧ Fr0 w w' := by
 have hx : (x != x) = false := by simp
 have hy : (y != y) = false := by simp
 have hz : (z != z) = false := by simp
 have HF : Jq7 (Fr0 w ((w.alloc (.cells (RP x y z) 47)).alloc (.cells (RP x y z) 47))) := jq7 (Fr.alloc (Fr.alloc (Fr.refl _ _) _) _)
 unfold RP at *
 go_enter Tryz.func15, Tryz.ntmps15
 go_wp2
 refine wp_loop_rounds 1 ?_
 rw [rounds_succ]
 go_wp2
 go_ret
 exact ⟨rfl, HF.o⟩
theorem looks_all (m : Rm) (a : Option Addr) (c : Nat) (d : Dk) (sa : Option Addr) (sc : Nat) (ca : Option Addr) (cc : Nat) (qa qb : Int) (s : List UInt8) (w : World) (hok : d.ok) (hv : DV w d sa sc ca cc) (hS : d.S.length * 130 ≤ 140737488355328) (hC : d.C.length * 136 ≤ 140737488355328) (hm : m.ok) (hr : RV w m a c) (hlen : m.ps.length ≤ 8796093022207) (ha : (Lit.int .i64 qa).wf = true) (hb : (Lit.int .i64 qb).wf = true) (hs : s.length = 32) (hsh : Sh w) : Calls Tryz.prog 4 #[.agg (dval d sa sc ca cc), .agg (rval m a c), .agg (PC qa qb s).toArray] w fun e w' => e = .returned (.bool true) ∧ Fr0 w w' := by
 have HSH := jq7 hsh
 have HAL : Jq7 (∀ W, Fr0 w W → Calls Tryz.prog 5 #[] W fun e w' => e = .returned (.bool true) ∧ Fr0 W w') := jq7 (fun W f => alive_calls W (hsh.keep0 f))
 have HGR : Jq7 (∀ W, Fr0 w W → Calls Tryz.prog 6 #[.agg (dval d sa sc ca cc)] W fun e w' => e = .returned (.bool (decide (300 < d.C.length))) ∧ Fr0 W w') := jq7 (fun W f => great_calls d sa sc ca cc W (hv.keep f))
 have HDC : Jq7 (∀ W, Fr0 w W → Calls Tryz.prog 7 #[.agg (dval d sa sc ca cc)] W fun e w' => ∃ sa' sc' ca' cc', e = .returned (.agg (dval d sa' sc' ca' cc')) ∧ DV w' d sa' sc' ca' cc' ∧ Fr0 W w') := jq7 (fun W f => copy_calls d sa sc ca cc W hok (hv.keep f) hS hC)
 have HRC : Jq7 (∀ W, Fr0 w W → Calls Tryz.prog 8 #[.agg (rval m a c)] W fun e w' => ∃ a' c', e = .returned (.agg (rval m a' c')) ∧ RV w' m a' c' ∧ Fr0 W w') := jq7 (fun W f => (rmcopy_calls m a c W (hr.keep f) (by omega)).mono (by rintro e w' ⟨g, cap, cur, h1, h2, h3, h4⟩;exact ⟨_, _, h1, ⟨OwnG.rd h3, OwnG.room h3, OwnG.max h3⟩, h4⟩))
 have hgo := lookX_ok (s := s) hok hm ha hb
 have HSM : Jq7 (∀ W y1 y2 y3 y4 z1 z2 z3 z4, DV W (lookX d m qa qb s).2.1 y1 y2 y3 y4 → DV W (lookX d m qa qb s).2.1 z1 z2 z3 z4 → Calls Tryz.prog 11 #[.agg (dval (lookX d m qa qb s).2.1 y1 y2 y3 y4), .agg (dval (lookX d m qa qb s).2.1 z1 z2 z3 z4)] W fun e w' => e = .returned (.bool true) ∧ Fr0 W w') := jq7 (fun W _ _ _ _ _ _ _ _ h h' => same_calls _ _ _ _ _ _ _ _ _ W hgo.1 h h')
 have HRS : Jq7 (∀ W a c a' c', RV W (lookX d m qa qb s).2.2 a c → RV W (lookX d m qa qb s).2.2 a' c' → Calls Tryz.prog 12 #[.agg (rval (lookX d m qa qb s).2.2 a c), .agg (rval (lookX d m qa qb s).2.2 a' c')] W fun e w' => e = .returned (.bool true) ∧ Fr0 W w') := jq7 (fun W a c a' c' h h' => by have := rmsame_calls (lookX d m qa qb s).2.2 (lookX d m qa qb s).2.2 a a' c c' W hgo.2.1 hgo.2.1 h h' (by omega);rwa [decide_eq_true ⟨rfl, rfl⟩] at this)
 have HGA : Jq7 (d.C.length ≤ 900 → ∀ p r W, r ≠ p → Sh W → PS W p r d m → Calls Tryz.prog 13 #[.pointer (some ⟨p, 0, none⟩), .pointer (some ⟨r, 0, none⟩), .agg (PC qa qb s).toArray] W fun e w' => e = .returned (.tuple #[.agg (RP (lookX d m qa qb s).1.1.1 (lookX d m qa qb s).1.1.2.1 (lookX d m qa qb s).1.1.2.2), .int .i64 (lookX d m qa qb s).1.2]) ∧ PS w' p r (lookX d m qa qb s).2.1 (lookX d m qa qb s).2.2 ∧ Fr (fun i => i = p ∨ i = r) W w') := jq7 (fun hc p r W hrp hsw h => look_calls p r d m qa qb s W hok hm h hrp hsw hs ha hb hc)
 have HGB : Jq7 (d.C.length ≤ 900 → ∀ p r W, r ≠ p → PS W p r d m → Calls Tryz.prog 14 #[.pointer (some ⟨p, 0, none⟩), .pointer (some ⟨r, 0, none⟩), .agg (PC qa qb s).toArray] W fun e w' => e = .returned (.tuple #[.agg (RP (lookX d m qa qb s).1.1.1 (lookX d m qa qb s).1.1.2.1 (lookX d m qa qb s).1.1.2.2), .int .i64 (lookX d m qa qb s).1.2]) ∧ PS w' p r (lookX d m qa qb s).2.1 (lookX d m qa qb s).2.2 ∧ Fr (fun i => i = p ∨ i = r) W w') := jq7 (fun hc p r W hrp h => rlook_calls p r d m qa qb s W hok hm h hrp hs ha hb hc)
 have HOK := jq7 hok
 have HOE := jq7 hgo.1
 have HID : Jq7 (∀ d a b c e, (Tryz.prog.info? 25).map (·.size) = some (dval d a b c e).size) := jq7 (fun _ _ _ _ _ => info_d)
 have HDO : Jq7 (∀ d a b c e, (dval d a b c e).all (·.oneCell') = true) := jq7 (fun _ _ _ _ _ => dval_one _ _ _ _ _)
 have HIR : Jq7 (∀ m a c, (Tryz.prog.info? 28).map (·.size) = some (rval m a c).size) := jq7 (fun _ _ _ => info_r _ _)
 have HRO : Jq7 (∀ m a c, (rval m a c).all (·.oneCell') = true) := jq7 (fun _ _ _ => RC_all _ _ _ _)
 have HIP := jq7 (info_ptr qa qb hs)
 have hzd : ∀ W, (zeroValue 25).run Tryz.prog W = .ok (.agg DZ) W := by intro W;kernel_rfl
 have hzr := zero_r
 have hzp := zero_rp
 have HCL : Jq7 (decide (300 < d.C.length) = false → d.C.length ≤ 900) := jq7 (fun h => by have := of_decide_eq_false h;omega)
 obtain ⟨⟨⟨⟨rx, ry, rz⟩, he⟩, D1, M1⟩, hE⟩ : ∃ z, (lookX d m qa qb s) = z := ⟨_, rfl⟩
 rw [hE] at HGA HGB HSM HRS HOE
 dsimp only at HGA HGB HSM HRS HOE
 have HSR : Jq7 (∀ W, Calls Tryz.prog 15 #[.agg (RP rx ry rz), .agg (RP rx ry rz)] W fun e w' => e = .returned (.bool true) ∧ Fr0 W w') := jq7 (fun W => same_rp rx ry rz W)
 generalize (PC qa qb s).toArray = PX at *
 have hs1 : (w.alloc (.cells (dval d sa sc ca cc) 25)).heap.size = w.heap.size + 1 := by simp
 have hs2 : ((w.alloc (.cells (dval d sa sc ca cc) 25)).alloc (.cells (rval m a c) 28)).heap.size = w.heap.size + 1 + 1 := by simp
 have HX0 : Jq7 (Bk (((w.alloc (.cells (dval d sa sc ca cc) 25)).alloc (.cells (rval m a c) 28)).alloc (.cells PX 31)) w.heap.size (dval d sa sc ca cc) 25) := jq7 (Bk.alloc (Bk.alloc (Bk.new w _) _) _)
 have HY0 : Jq7 (Bk (((w.alloc (.cells (dval d sa sc ca cc) 25)).alloc (.cells (rval m a c) 28)).alloc (.cells PX 31)) (w.heap.size + 1) (rval m a c) 28) := jq7 (Bk.alloc (by have := Bk.new (w.alloc (.cells (dval d sa sc ca cc) 25)) (.cells (rval m a c) 28);rwa [hs1] at this) _)
 have HL0 : Jq7 (Bk (((w.alloc (.cells (dval d sa sc ca cc) 25)).alloc (.cells (rval m a c) 28)).alloc (.cells PX 31)) (w.heap.size + 1 + 1) PX 31) := jq7 (by have := Bk.new ((w.alloc (.cells (dval d sa sc ca cc) 25)).alloc (.cells (rval m a c) 28)) (.cells PX 31);rwa [hs2] at this)
 have HF0 : Jq7 (Fr0 w (((w.alloc (.cells (dval d sa sc ca cc) 25)).alloc (.cells (rval m a c) 28)).alloc (.cells PX 31))) := jq7 (Fr.alloc (Fr.alloc (Fr.alloc (Fr.refl _ _) _) _) _)
 have hee : (he == he) = true := beq_self_eq_true _
 clear hs1 hs2 hv hr hsh hok hm ha hb hs hS hC hlen hgo hE
 cases hg : decide (300 < d.C.length) with
 | true =>
  rw [hg] at HGR
  clear hg
  go_enter Tryz.func4, Tryz.ntmps4
  go_wp2_with (first | (go_at_call 5;(with_reducible refine (HAL.o _ HF0.o).mono ?_);rintro e w1 ⟨rfl, hf1⟩;have HF1 := fq0 HF0 hf1;have HX1 := kq0 hf1 HX0;have HY1 := kq0 hf1 HY0;have HL1 := kq0 hf1 HL0;clear hf1) | ((with_reducible show wkq (.load 25 _) _);refine lr 25 w.heap.size _ HX1.o (HID.o _ _ _ _ _) ?_) | (go_at_call 6;(with_reducible refine (HGR.o _ HF1.o).mono ?_);rintro e w2 ⟨rfl, hf2⟩;have HF2 := fq0 HF1 hf2;have HX2 := kq0 hf2 HX1;have HY2 := kq0 hf2 HY1;have HL2 := kq0 hf2 HL1;clear hf2))
  go_ret
  exact ⟨rfl, HF2.o⟩
 | false =>
  rw [hg] at HGR
  have HC9 := jq7 (HCL.o hg)
  clear hg HCL
  go_enter Tryz.func4, Tryz.ntmps4
  go_wp2_with (first | (go_at_call 5;(with_reducible refine (HAL.o _ HF0.o).mono ?_);rintro e w1 ⟨rfl, hf1⟩;have HF1 := fq0 HF0 hf1;have HX1 := kq0 hf1 HX0;have HY1 := kq0 hf1 HY0;have HL1 := kq0 hf1 HL0;clear hf1) | ((with_reducible show wkq (.load 25 _) _);refine lr 25 w.heap.size _ HX1.o (HID.o _ _ _ _ _) ?_) | (go_at_call 6;(with_reducible refine (HGR.o _ HF1.o).mono ?_);rintro e w2 ⟨rfl, hf2⟩;have HF2 := fq0 HF1 hf2;have HX2 := kq0 hf2 HX1;have HY2 := kq0 hf2 HY1;have HL2 := kq0 hf2 HL1;clear hf2))
  rename_i K hKA
  have HREST : Jq7 (∀ (W : World) (pA pB : Nat) s1 n1 c1 m1 s2 n2 c2 m2, Fr (fun _ => False) w2 W → DAt W pA d s1 n1 c1 m1 → DAt W pB d s2 n2 c2 m2 → pA ≠ pB → w2.heap.size ≤ pA → w2.heap.size ≤ pB → K { tmps := #[Value.agg (dval d sa sc ca cc), Value.agg (rval m a c), Value.agg PX, Value.pointer (some ⟨w.heap.size, 0, none⟩), Value.pointer (some ⟨w.heap.size + 1, 0, none⟩), Value.pointer (some ⟨w.heap.size + 1 + 1, 0, none⟩), Value.bool false, .pointer (some ⟨pA, 0, none⟩), .pointer (some ⟨pB, 0, none⟩), undef, undef, undef, undef, undef, undef, Value.bool true, Value.bool false, Value.agg (dval d sa sc ca cc), Value.bool false, .agg (dval d sa sc ca cc), .agg (dval d s1 n1 c1 m1), .agg (dval d sa sc ca cc), .agg (dval d s2 n2 c2 m2), undef, undef, undef, undef, undef, undef, undef, undef, undef, undef, undef, undef, undef, undef, undef, undef, undef, undef, undef, undef, undef, undef, undef, undef, undef, undef, undef, undef, undef, undef, undef, undef], defers := [] } W) := jq7 (by
   intro wE xA xB s1 n1 c1 m1 s2 n2 c2 m2 hf hp hq hpq hlo hlo2
   refine hKA _ _ ?_
   have HP3 := jq7 hp
   have HQ3 := jq7 hq
   have HF3 : Jq7 (Fr0 w wE) := fq0 HF2 hf
   have HY3 := kq0 hf HY2
   have HL3 := kq0 hf HL2
   have HXX : Jq7 (w2.heap.size ≤ xA ∧ w2.heap.size ≤ xB ∧ xA ≠ xB) := jq7 ⟨hlo, hlo2, hpq⟩
   clear hf hp hq hlo hlo2 hpq
   go_wp2
   rename_i K2 hKB
   have HREST2 : Jq7 (∀ (W3 : World) (pA pB : Nat) a1 k1 a2 k2, Fr (fun _ => False) wE W3 → (∃ a c, Bk W3 pA (rval m a c) 28 ∧ RV W3 m a c) → (∃ a c, Bk W3 pB (rval m a c) 28 ∧ RV W3 m a c) → pA ≠ pB → wE.heap.size ≤ pA → wE.heap.size ≤ pB → K2 { tmps := #[Value.agg (dval d sa sc ca cc), Value.agg (rval m a c), Value.agg PX, Value.pointer (some ⟨w.heap.size, 0, none⟩), Value.pointer (some ⟨w.heap.size + 1, 0, none⟩), Value.pointer (some ⟨w.heap.size + 1 + 1, 0, none⟩), Value.bool false, Value.pointer (some ⟨xA, 0, none⟩), Value.pointer (some ⟨xB, 0, none⟩), .pointer (some ⟨pA, 0, none⟩), .pointer (some ⟨pB, 0, none⟩), undef, undef, undef, undef, Value.bool true, Value.bool false, Value.agg (dval d sa sc ca cc), Value.bool false, Value.agg (dval d sa sc ca cc), Value.agg (dval d s1 n1 c1 m1), Value.agg (dval d sa sc ca cc), Value.agg (dval d s2 n2 c2 m2), .agg (rval m a c), .agg (rval m a1 k1), .agg (rval m a c), .agg (rval m a2 k2), undef, undef, undef, undef, undef, undef, undef, undef, undef, undef, undef, undef, undef, undef, undef, undef, undef, undef, undef, undef, undef, undef, undef, undef, undef, undef, undef, undef], defers := [] } W3) := jq7 (by
    intro W3 rA rB a1 k1 a2 k2 hf hp hq hpq hlo hlo2
    refine hKB _ _ ?_
    have HF4 : Jq7 (Fr0 w W3) := fq0 HF3 hf
    have HL4 := kq0 hf HL3
    have HPA : Jq7 (PS W3 xA rA d m) := jq7 ⟨⟨_, _, _, _, HP3.o.keep hf⟩, hp⟩
    have HPB : Jq7 (PS W3 xB rB d m) := jq7 ⟨⟨_, _, _, _, HQ3.o.keep hf⟩, hq⟩
    have HNE : Jq7 (w.heap.size + 1 + 1 < xA ∧ w.heap.size + 1 + 1 < xB ∧ w.heap.size + 1 + 1 < rA ∧ w.heap.size + 1 + 1 < rB ∧ xA ≠ xB ∧ rA ≠ rB ∧ rA ≠ xA ∧ rA ≠ xB ∧ rB ≠ xA ∧ rB ≠ xB) := jq7 (by
     have h1 := Bk.lt HL2.o
     have h2 := Bk.lt HP3.o.blk
     have h3 := Bk.lt HQ3.o.blk
     have h4 := HXX.o
     omega)
    have HLT : Jq7 (xA < W3.heap.size ∧ xB < W3.heap.size ∧ rA < W3.heap.size ∧ rB < W3.heap.size) := jq7 (by
     obtain ⟨q1, q2, hb1, -⟩ := hp
     obtain ⟨q3, q4, hb2, -⟩ := hq
     exact ⟨Bk.lt (HP3.o.keep hf).blk, Bk.lt (HQ3.o.keep hf).blk, Bk.lt hb1, Bk.lt hb2⟩)
    clear hf hp hq hlo hlo2 hpq HP3 HQ3
    go_wp2_with (first | ((with_reducible show wkq (.load 31 _) _);refine lr 31 (w.heap.size + 1 + 1) _ HL6.o HIP.o ?_) | ((with_reducible show wkq (.load 31 _) _);refine lr 31 (w.heap.size + 1 + 1) _ HL4.o HIP.o ?_) | (go_at_call 13;(with_reducible refine (HGA.o HC9.o xA rA _ (by have := HNE.o;omega) (HSH.o.keep0 HF4.o) HPA.o).mono ?_);rintro e w5 ⟨rfl, hp, hf⟩;have hne := HNE.o;have HZ5 := jq7 (Bk.new w5 (.cells (RP 0 0 0) 47));have hfx : Fr0 w5 ((w5.alloc (.cells (RP 0 0 0) 47)).setRow w5.heap.size (RP rx ry rz)) := ArrKit.Fr.row (Fr.alloc (Fr.refl _ _) _) _ _ (.inl (Nat.le_refl _));have HPA6 := jq7 (hp.keep0 hfx);have HPB6 := jq7 ((PS.past HPB.o HOK.o HPA.o hf (by omega) (by omega) (by omega) (by omega) (by omega)).keep0 hfx);have HL6 := jq7 (hfx.keep (hf.keep HL4.o (by omega)) (fun h => h));have HF6 : Jq7 (Fr0 w ((w5.alloc (.cells (RP 0 0 0) 47)).setRow w5.heap.size (RP rx ry rz))) := jq7 ((HF4.o.then hf (fun i hi e => by omega)).then0 hfx);have HT6 : Jq7 (Bk ((w5.alloc (.cells (RP 0 0 0) 47)).setRow w5.heap.size (RP rx ry rz)) w5.heap.size (RP rx ry rz) 47) := jq7 (ArrKit.Bk.row HZ5.o _);have HG5 : Jq7 (xB < w5.heap.size ∧ rB < w5.heap.size) := jq7 (by have h1 := HLT.o;have h2 := hf.size;omega);clear hp hf hfx hne) | ((with_reducible show wkq (.store 47 _ _) _);refine wpList_store_row rfl 47 _ _ rfl w5.heap.size (RP rx ry rz) rfl rfl 47 (RP 0 0 0) HZ5.o (info_rp rx ry rz) rfl (one_rp rx ry rz) ?_) | (go_at_call 14;(with_reducible refine (HGB.o HC9.o xB rB _ (by have := HNE.o;omega) HPB6.o).mono ?_);rintro e w7 ⟨rfl, hp, hf⟩;have hne := HNE.o;have hg5 := HG5.o;have HZ7 := jq7 (Bk.new w7 (.cells (RP 0 0 0) 47));have hfx : Fr0 w7 ((w7.alloc (.cells (RP 0 0 0) 47)).setRow w7.heap.size (RP rx ry rz)) := ArrKit.Fr.row (Fr.alloc (Fr.refl _ _) _) _ _ (.inl (Nat.le_refl _));obtain ⟨⟨z1, z2, z3, z4, hB1⟩, aB, cB, hB2⟩ := hp.keep0 hfx;obtain ⟨⟨y1, y2, y3, y4, hA1⟩, aA, cA, hA2⟩ := (PS.past HPA6.o HOE.o HPB6.o hf (by omega) (by omega) (by omega) (by omega) (by omega)).keep0 hfx;have HA := jq7 hA1;have HB := jq7 hB1;have HTA := jq7 hA2;have HTB := jq7 hB2;have HF8 : Jq7 (Fr0 w ((w7.alloc (.cells (RP 0 0 0) 47)).setRow w7.heap.size (RP rx ry rz))) := jq7 ((HF6.o.then hf (fun i hi e => by omega)).then0 hfx);have HT8 : Jq7 (Bk ((w7.alloc (.cells (RP 0 0 0) 47)).setRow w7.heap.size (RP rx ry rz)) w5.heap.size (RP rx ry rz) 47) := jq7 (hfx.keep (hf.keep HT6.o (by omega)) (fun h => h));have HU8 : Jq7 (Bk ((w7.alloc (.cells (RP 0 0 0) 47)).setRow w7.heap.size (RP rx ry rz)) w7.heap.size (RP rx ry rz) 47) := jq7 (ArrKit.Bk.row HZ7.o _);clear hp hf hfx hne hg5 hA1 hB1 hA2 hB2) | ((with_reducible show wkq (.store 47 _ _) _);refine wpList_store_row rfl 47 _ _ rfl w7.heap.size (RP rx ry rz) rfl rfl 47 (RP 0 0 0) HZ7.o (info_rp rx ry rz) rfl (one_rp rx ry rz) ?_) | ((with_reducible show wkq (.load 47 _) _);refine lr 47 w5.heap.size _ HT8.o (info_rp rx ry rz) ?_) | ((with_reducible show wkq (.load 47 _) _);refine lr 47 w7.heap.size _ HU8.o (info_rp rx ry rz) ?_) | (go_at_call 15;(with_reducible refine (HSR.o _).mono ?_);rintro e w85 ⟨rfl, hf9⟩;replace HF8 := fq0 HF8 hf9;replace HA := jq7 (HA.o.keep hf9);replace HB := jq7 (HB.o.keep hf9);replace HTA := jq7 (And.intro (hf9.keep HTA.o.1 (fun h => h)) (HTA.o.2.keep hf9));replace HTB := jq7 (And.intro (hf9.keep HTB.o.1 (fun h => h)) (HTB.o.2.keep hf9));clear hf9) | ((with_reducible show wkq (.load 25 _) _);refine lr 25 xA _ HA.o.blk (HID.o _ _ _ _ _) ?_) | ((with_reducible show wkq (.load 25 _) _);refine lr 25 xB _ HB.o.blk (HID.o _ _ _ _ _) ?_) | ((with_reducible show wkq (.load 28 _) _);refine lr 28 rA _ HTA.o.1 (HIR.o _ _ _) ?_) | ((with_reducible show wkq (.load 28 _) _);refine lr 28 rB _ HTB.o.1 (HIR.o _ _ _) ?_) | (go_at_call 11;(with_reducible refine (HSM.o _ _ _ _ _ _ _ _ _ HA.o.v HB.o.v).mono ?_);rintro e w9 ⟨rfl, hf9⟩;have HF9 := fq0 HF8 hf9;have HTA9 := jq7 (hf9.keep HTA.o.1 (fun h => h));have HTB9 := jq7 (hf9.keep HTB.o.1 (fun h => h));have HVA9 := jq7 (HTA.o.2.keep hf9);have HVB9 := jq7 (HTB.o.2.keep hf9);clear hf9) | ((with_reducible show wkq (.load 28 _) _);refine lr 28 rA _ HTA9.o (HIR.o _ _ _) ?_) | ((with_reducible show wkq (.load 28 _) _);refine lr 28 rB _ HTB9.o (HIR.o _ _ _) ?_) | (go_at_call 12;(with_reducible refine (HRS.o _ _ _ _ _ HVA9.o HVB9.o).mono ?_);rintro e w10 ⟨rfl, hf10⟩;have HF10 := fq0 HF9 hf10;clear hf10))
    go_ret
    exact ⟨rfl, HF10.o⟩
    )
   clear hKB
   refine wp_region_noPanic ?_
   refine wp_region_held_drew (S := (fun W : World => Fr (fun _ => False) wE W)) (by kernel_rfl) (Fr.drew (Fr.refl _ _)) (fun hL0 => ?_)
   generalize wE.drew = wd at *
   change wpAnyH _ _ _ _ _ 8 #[false, false, false, false, false, false, false, false] _ _
   refine cutH (α := World × Nat × Nat × Option Addr × Nat × Option Addr × Nat) 2 #[true, true, true, true, true, true, false, false] (fun x => Fr (fun _ => False) wE x.1 ∧ RV x.1 m x.2.2.2.1 x.2.2.2.2.1 ∧ RV x.1 m x.2.2.2.2.2.1 x.2.2.2.2.2.2 ∧ Bk x.1 x.2.1 RZ 28 ∧ Bk x.1 x.2.2.1 RZ 28 ∧ x.2.1 ≠ x.2.2.1 ∧ wE.heap.size ≤ x.2.1 ∧ wE.heap.size ≤ x.2.2.1) (fun x => { tmps := #[.agg (dval d sa sc ca cc), .agg (rval m a c), .agg PX, .pointer (some ⟨w.heap.size, 0, none⟩), .pointer (some ⟨w.heap.size + 1, 0, none⟩), .pointer (some ⟨w.heap.size + 1 + 1, 0, none⟩), .bool false, .pointer (some ⟨xA, 0, none⟩), .pointer (some ⟨xB, 0, none⟩), .pointer (some ⟨x.2.1, 0, none⟩), .pointer (some ⟨x.2.2.1, 0, none⟩), undef, undef, undef, undef, .bool true, .bool false, .agg (dval d sa sc ca cc), .bool false, .agg (dval d sa sc ca cc), .agg (dval d s1 n1 c1 m1), .agg (dval d sa sc ca cc), .agg (dval d s2 n2 c2 m2), .agg (rval m a c), .agg (rval m x.2.2.2.1 x.2.2.2.2.1), .agg (rval m a c), .agg (rval m x.2.2.2.2.2.1 x.2.2.2.2.2.2), undef, undef, undef, undef, undef, undef, undef, undef, undef, undef, undef, undef, undef, undef, undef, undef, undef, undef, undef, undef, undef, undef, undef, undef, undef, undef, undef, undef], defers := [] }) (fun x => x.1) ?_ (fun HTAIL => ?_)
   ·rintro ⟨wx3, pA, pB, a1, k1, a2, k2⟩ ⟨hL4, ho0, ho1, hz0, hz1, hpq, hl0, hl1⟩
    dsimp only at *
    have HO0 := jq7 ho0
    have HO1 := jq7 ho1
    have HZ0 := jq7 hz0
    have HZ1 := jq7 hz1
    have HPQ := jq7 hpq
    have HLO0 := jq7 hl0
    have HLO1 := jq7 hl1
    clear ho0 ho1 hz0 hz1 hpq hl0 hl1
    refine rd1 6 rfl fun K hK => ?_
    simp only [zA, zB, zC]
    refine wp_store_row 28 _ _ rfl pA (rval m a1 k1) rfl rfl 28 RZ HZ0.o (HIR.o _ _ _) rfl (HRO.o _ _ _) ?_
    have hfx4 := Fr.row1 wx3 pA (rval m a1 k1)
    replace HO0 := jq7 (RV.pastR HO0.o hfx4 HZ0.o)
    replace HO1 := jq7 (RV.pastR HO1.o hfx4 HZ0.o)
    replace HZ1 := jq7 ((show Bk (wx3.setRow pA (rval m a1 k1)) pB RZ 28 from ArrKit.Bk.rowOther HZ1.o _ (HPQ.o.symm)))
    have HX0' : Jq7 (Bk (wx3.setRow pA (rval m a1 k1)) pA (rval m a1 k1) 28) := jq7 (ArrKit.Bk.row HZ0.o _)
    clear HZ0
    have HZ0 := HX0'
    clear HX0'
    refine hK.out _ _ (ArrKit.Fr.row hL4 _ _ (.inl HLO0.o)) (fun hL5 => ?_)
    clear hK K hL4
    clear hfx4
    generalize (wx3.setRow pA (rval m a1 k1)) = wx4 at *
    change wpAnyH _ _ _ _ _ 1 #[true, true, true, true, true, true, true, false] _ _
    refine rd1 7 rfl fun K hK => ?_
    simp only [zA, zB, zC]
    refine wp_store_row 28 _ _ rfl pB (rval m a2 k2) rfl rfl 28 RZ HZ1.o (HIR.o _ _ _) rfl (HRO.o _ _ _) ?_
    have hfx5 := Fr.row1 wx4 pB (rval m a2 k2)
    replace HO0 := jq7 (RV.pastR HO0.o hfx5 HZ1.o)
    replace HO1 := jq7 (RV.pastR HO1.o hfx5 HZ1.o)
    replace HZ0 := jq7 ((show Bk (wx4.setRow pB (rval m a2 k2)) pA (rval m a1 k1) 28 from ArrKit.Bk.rowOther HZ0.o _ (HPQ.o)))
    have HX1' : Jq7 (Bk (wx4.setRow pB (rval m a2 k2)) pB (rval m a2 k2) 28) := jq7 (ArrKit.Bk.row HZ1.o _)
    clear HZ1
    have HZ1 := HX1'
    clear HX1'
    refine hK.out _ _ (ArrKit.Fr.row hL5 _ _ (.inl HLO1.o)) (fun hL6 => ?_)
    clear hK K hL5
    clear hfx5
    generalize (wx4.setRow pB (rval m a2 k2)) = wx5 at *
    change wpAnyH _ _ _ _ _ 0 #[true, true, true, true, true, true, true, true] _ _
    refine wpAnyH_done (by kernel_rfl) ?_ _
    refine NoPanic.normal ?_
    have HEND := jq7 hL6
    clear hL6
    exact HREST2.o wx5 pA pB a1 k1 a2 k2 HEND.o ⟨a1, k1, HZ0.o, HO0.o⟩ ⟨a2, k2, HZ1.o, HO1.o⟩ HPQ.o HLO0.o HLO1.o
   refine tk (i := 0) (v := .agg (rval m a c)) rfl (yields_row (by kernel_rfl) 28 _ rfl (w.heap.size + 1) rfl 28 (rval m a c) (0, 0) _ (fun _ h => Fr.keep h HY3.o (fun h => h)) Tryz.underlying28 rfl (HIR.o _ _ _)) hL0 ?_
   refine tk (i := 2) (v := .agg (rval m a c)) rfl (yields_row (by kernel_rfl) 28 _ rfl (w.heap.size + 1) rfl 28 (rval m a c) (0, 0) _ (fun _ h => Fr.keep h HY3.o (fun h => h)) Tryz.underlying28 rfl (HIR.o _ _ _)) hL0 ?_
   simp only [Act.put,zA,zB,zC,zD,zE,zF]
   change wpAnyH _ _ _ _ _ 6 #[true, false, true, false, false, false, false, false] _ _
   refine wpAnyH_ready (rs := [1, 4, 5]) (by kernel_rfl) (by simp) ?_
   refine AllReadyH.cons rfl (fun K hK => ?_) (AllReadyH.cons rfl (fun K hK => ?_) (AllReadyH.cons rfl (fun K hK => ?_) (AllReadyH.nil)))
   ·simp only [zA, zB, zC]
    refine (if_pos (by kernel_rfl)).mpr ?_
    go_wp2_with fail
    refine (HRC.o _ (HF3.o.then0 hL0)).mono ?_
    rintro e wx0 ⟨a1, k1, rfl, hown0, hfx0⟩
    dsimp only
    have HO0 := jq7 hown0
    clear hown0
    refine hK.out _ _ (hL0.then0 hfx0) (fun hL1 => ?_)
    clear hK K hL0
    clear hfx0
    change wpAnyH _ _ _ _ _ 5 #[true, true, true, false, false, false, false, false] _ _
    refine wpAnyH_ready (rs := [3, 4, 5]) (by kernel_rfl) (by simp) ?_
    refine AllReadyH.cons rfl (fun K hK => ?_) (AllReadyH.cons rfl (fun K hK => ?_) (AllReadyH.cons rfl (fun K hK => ?_) (AllReadyH.nil)))
    ·simp only [zA, zB, zC]
     refine (if_pos (by kernel_rfl)).mpr ?_
     go_wp2_with fail
     refine (HRC.o _ (HF3.o.then0 hL1)).mono ?_
     rintro e wx1 ⟨a2, k2, rfl, hown1, hfx1⟩
     dsimp only
     replace HO0 := jq7 (RV.keep HO0.o hfx1)
     have HO1 := jq7 hown1
     clear hown1
     refine hK.out _ _ (hL1.then0 hfx1) (fun hL2 => ?_)
     clear hK K hL1
     clear hfx1
     change wpAnyH _ _ _ _ _ 4 #[true, true, true, true, false, false, false, false] _ _
     refine wpAnyH_ready (rs := [4, 5]) (by kernel_rfl) (by simp) ?_
     refine AllReadyH.cons rfl (fun K hK => ?_) (AllReadyH.cons rfl (fun K hK => ?_) (AllReadyH.nil))
     ·simp only [zA, zB, zC]
      refine (if_pos (by kernel_rfl)).mpr ?_
      go_wp2_with fail
      have hfx2 : Fr (fun _ => False) wx1 (wx1.alloc (.cells RZ 28)) := Fr.alloc (Fr.refl _ _) _
      have HLO0 : Jq7 (wE.heap.size ≤ wx1.heap.size) := jq7 (Fr.size hL2)
      replace HO0 := jq7 (RV.keep HO0.o hfx2)
      replace HO1 := jq7 (RV.keep HO1.o hfx2)
      have HZ0 : Jq7 (Bk (wx1.alloc (.cells RZ 28)) wx1.heap.size RZ 28) := jq7 (Bk.new wx1 _)
      have HB0 : Jq7 (wx1.heap.size < (wx1.alloc (.cells RZ 28)).heap.size) := jq7 (Bk.lt HZ0.o)
      refine hK.out _ _ (hL2.then0 hfx2) (fun hL3 => ?_)
      clear hK K hL2
      clear hfx2
      generalize wx1.heap.size = pA at *
      generalize (wx1.alloc (.cells RZ 28)) = wx2 at *
      change wpAnyH _ _ _ _ _ 3 #[true, true, true, true, true, false, false, false] _ _
      refine rd1 5 rfl fun K hK => ?_
      simp only [zA, zB, zC]
      go_wp2_with fail
      have hfx3 : Fr (fun _ => False) wx2 (wx2.alloc (.cells RZ 28)) := Fr.alloc (Fr.refl _ _) _
      have HLO1 : Jq7 (wE.heap.size ≤ wx2.heap.size) := jq7 (Fr.size hL3)
      have HPQ : Jq7 (pA ≠ wx2.heap.size) := jq7 (by have h1 := Bk.lt HZ0.o;omega)
      replace HO0 := jq7 (RV.keep HO0.o hfx3)
      replace HO1 := jq7 (RV.keep HO1.o hfx3)
      replace HZ0 := kq0 hfx3 HZ0
      have HZ1 : Jq7 (Bk (wx2.alloc (.cells RZ 28)) wx2.heap.size RZ 28) := jq7 (Bk.new wx2 _)
      have HB1 : Jq7 (wx2.heap.size < (wx2.alloc (.cells RZ 28)).heap.size) := jq7 (Bk.lt HZ1.o)
      replace HB0 : Jq7 (pA < (wx2.alloc (.cells RZ 28)).heap.size) := jq7 (Bk.lt HZ0.o)
      refine hK.out _ _ (hL3.then0 hfx3) (fun hL4 => ?_)
      clear hK K hL3
      clear hfx3
      generalize wx2.heap.size = pB at *
      generalize (wx2.alloc (.cells RZ 28)) = wx3 at *
      change wpAnyH _ _ _ _ _ 2 #[true, true, true, true, true, true, false, false] _ _
      exact HTAIL (wx3, pA, pB, a1, k1, a2, k2) ⟨hL4, HO0.o, HO1.o, HZ0.o, HZ1.o, HPQ.o, HLO0.o, HLO1.o⟩
     ·simp only [zA, zB, zC]
      refine (if_pos (by kernel_rfl)).mpr ?_
      go_wp2_with fail
      have hfx2 : Fr (fun _ => False) wx1 (wx1.alloc (.cells RZ 28)) := Fr.alloc (Fr.refl _ _) _
      have HLO1 : Jq7 (wE.heap.size ≤ wx1.heap.size) := jq7 (Fr.size hL2)
      replace HO0 := jq7 (RV.keep HO0.o hfx2)
      replace HO1 := jq7 (RV.keep HO1.o hfx2)
      have HZ1 : Jq7 (Bk (wx1.alloc (.cells RZ 28)) wx1.heap.size RZ 28) := jq7 (Bk.new wx1 _)
      have HB1 : Jq7 (wx1.heap.size < (wx1.alloc (.cells RZ 28)).heap.size) := jq7 (Bk.lt HZ1.o)
      refine hK.out _ _ (hL2.then0 hfx2) (fun hL3 => ?_)
      clear hK K hL2
      clear hfx2
      generalize wx1.heap.size = pB at *
      generalize (wx1.alloc (.cells RZ 28)) = wx2 at *
      change wpAnyH _ _ _ _ _ 3 #[true, true, true, true, false, true, false, false] _ _
      refine rd1 4 rfl fun K hK => ?_
      simp only [zA, zB, zC]
      go_wp2_with fail
      have hfx3 : Fr (fun _ => False) wx2 (wx2.alloc (.cells RZ 28)) := Fr.alloc (Fr.refl _ _) _
      have HLO0 : Jq7 (wE.heap.size ≤ wx2.heap.size) := jq7 (Fr.size hL3)
      have HPQ : Jq7 (wx2.heap.size ≠ pB) := jq7 (by have h1 := Bk.lt HZ1.o;omega)
      replace HO0 := jq7 (RV.keep HO0.o hfx3)
      replace HO1 := jq7 (RV.keep HO1.o hfx3)
      replace HZ1 := kq0 hfx3 HZ1
      have HZ0 : Jq7 (Bk (wx2.alloc (.cells RZ 28)) wx2.heap.size RZ 28) := jq7 (Bk.new wx2 _)
      have HB0 : Jq7 (wx2.heap.size < (wx2.alloc (.cells RZ 28)).heap.size) := jq7 (Bk.lt HZ0.o)
      replace HB1 : Jq7 (pB < (wx2.alloc (.cells RZ 28)).heap.size) := jq7 (Bk.lt HZ1.o)
      refine hK.out _ _ (hL3.then0 hfx3) (fun hL4 => ?_)
      clear hK K hL3
      clear hfx3
      generalize wx2.heap.size = pA at *
      generalize (wx2.alloc (.cells RZ 28)) = wx3 at *
      change wpAnyH _ _ _ _ _ 2 #[true, true, true, true, true, true, false, false] _ _
      exact HTAIL (wx3, pA, pB, a1, k1, a2, k2) ⟨hL4, HO0.o, HO1.o, HZ0.o, HZ1.o, HPQ.o, HLO0.o, HLO1.o⟩
    ·simp only [zA, zB, zC]
     refine (if_pos (by kernel_rfl)).mpr ?_
     go_wp2_with fail
     have hfx1 : Fr (fun _ => False) wx0 (wx0.alloc (.cells RZ 28)) := Fr.alloc (Fr.refl _ _) _
     have HLO0 : Jq7 (wE.heap.size ≤ wx0.heap.size) := jq7 (Fr.size hL1)
     replace HO0 := jq7 (RV.keep HO0.o hfx1)
     have HZ0 : Jq7 (Bk (wx0.alloc (.cells RZ 28)) wx0.heap.size RZ 28) := jq7 (Bk.new wx0 _)
     have HB0 : Jq7 (wx0.heap.size < (wx0.alloc (.cells RZ 28)).heap.size) := jq7 (Bk.lt HZ0.o)
     refine hK.out _ _ (hL1.then0 hfx1) (fun hL2 => ?_)
     clear hK K hL1
     clear hfx1
     generalize wx0.heap.size = pA at *
     generalize (wx0.alloc (.cells RZ 28)) = wx1 at *
     change wpAnyH _ _ _ _ _ 4 #[true, true, true, false, true, false, false, false] _ _
     refine wpAnyH_ready (rs := [3, 5]) (by kernel_rfl) (by simp) ?_
     refine AllReadyH.cons rfl (fun K hK => ?_) (AllReadyH.cons rfl (fun K hK => ?_) (AllReadyH.nil))
     ·simp only [zA, zB, zC]
      refine (if_pos (by kernel_rfl)).mpr ?_
      go_wp2_with fail
      refine (HRC.o _ (HF3.o.then0 hL2)).mono ?_
      rintro e wx2 ⟨a2, k2, rfl, hown1, hfx2⟩
      dsimp only
      replace HO0 := jq7 (RV.keep HO0.o hfx2)
      replace HZ0 := kq0 hfx2 HZ0
      have HO1 := jq7 hown1
      clear hown1
      replace HB0 : Jq7 (pA < wx2.heap.size) := jq7 (Bk.lt HZ0.o)
      refine hK.out _ _ (hL2.then0 hfx2) (fun hL3 => ?_)
      clear hK K hL2
      clear hfx2
      change wpAnyH _ _ _ _ _ 3 #[true, true, true, true, true, false, false, false] _ _
      refine rd1 5 rfl fun K hK => ?_
      simp only [zA, zB, zC]
      go_wp2_with fail
      have hfx3 : Fr (fun _ => False) wx2 (wx2.alloc (.cells RZ 28)) := Fr.alloc (Fr.refl _ _) _
      have HLO1 : Jq7 (wE.heap.size ≤ wx2.heap.size) := jq7 (Fr.size hL3)
      have HPQ : Jq7 (pA ≠ wx2.heap.size) := jq7 (by have h1 := Bk.lt HZ0.o;omega)
      replace HO0 := jq7 (RV.keep HO0.o hfx3)
      replace HZ0 := kq0 hfx3 HZ0
      replace HO1 := jq7 (RV.keep HO1.o hfx3)
      have HZ1 : Jq7 (Bk (wx2.alloc (.cells RZ 28)) wx2.heap.size RZ 28) := jq7 (Bk.new wx2 _)
      have HB1 : Jq7 (wx2.heap.size < (wx2.alloc (.cells RZ 28)).heap.size) := jq7 (Bk.lt HZ1.o)
      replace HB0 : Jq7 (pA < (wx2.alloc (.cells RZ 28)).heap.size) := jq7 (Bk.lt HZ0.o)
      refine hK.out _ _ (hL3.then0 hfx3) (fun hL4 => ?_)
      clear hK K hL3
      clear hfx3
      generalize wx2.heap.size = pB at *
      generalize (wx2.alloc (.cells RZ 28)) = wx3 at *
      change wpAnyH _ _ _ _ _ 2 #[true, true, true, true, true, true, false, false] _ _
      exact HTAIL (wx3, pA, pB, a1, k1, a2, k2) ⟨hL4, HO0.o, HO1.o, HZ0.o, HZ1.o, HPQ.o, HLO0.o, HLO1.o⟩
     ·simp only [zA, zB, zC]
      refine (if_pos (by kernel_rfl)).mpr ?_
      go_wp2_with fail
      have hfx2 : Fr (fun _ => False) wx1 (wx1.alloc (.cells RZ 28)) := Fr.alloc (Fr.refl _ _) _
      have HLO1 : Jq7 (wE.heap.size ≤ wx1.heap.size) := jq7 (Fr.size hL2)
      have HPQ : Jq7 (pA ≠ wx1.heap.size) := jq7 (by have h1 := Bk.lt HZ0.o;omega)
      replace HO0 := jq7 (RV.keep HO0.o hfx2)
      replace HZ0 := kq0 hfx2 HZ0
      have HZ1 : Jq7 (Bk (wx1.alloc (.cells RZ 28)) wx1.heap.size RZ 28) := jq7 (Bk.new wx1 _)
      have HB1 : Jq7 (wx1.heap.size < (wx1.alloc (.cells RZ 28)).heap.size) := jq7 (Bk.lt HZ1.o)
      replace HB0 : Jq7 (pA < (wx1.alloc (.cells RZ 28)).heap.size) := jq7 (Bk.lt HZ0.o)
      refine hK.out _ _ (hL2.then0 hfx2) (fun hL3 => ?_)
      clear hK K hL2
      clear hfx2
      generalize wx1.heap.size = pB at *
      generalize (wx1.alloc (.cells RZ 28)) = wx2 at *
      change wpAnyH _ _ _ _ _ 3 #[true, true, true, false, true, true, false, false] _ _
      refine rd1 3 rfl fun K hK => ?_
      simp only [zA, zB, zC]
      go_wp2_with fail
      refine (HRC.o _ (HF3.o.then0 hL3)).mono ?_
      rintro e wx3 ⟨a2, k2, rfl, hown1, hfx3⟩
      dsimp only
      replace HO0 := jq7 (RV.keep HO0.o hfx3)
      replace HZ0 := kq0 hfx3 HZ0
      replace HZ1 := kq0 hfx3 HZ1
      have HO1 := jq7 hown1
      clear hown1
      replace HB0 : Jq7 (pA < wx3.heap.size) := jq7 (Bk.lt HZ0.o)
      replace HB1 : Jq7 (pB < wx3.heap.size) := jq7 (Bk.lt HZ1.o)
      refine hK.out _ _ (hL3.then0 hfx3) (fun hL4 => ?_)
      clear hK K hL3
      clear hfx3
      change wpAnyH _ _ _ _ _ 2 #[true, true, true, true, true, true, false, false] _ _
      exact HTAIL (wx3, pA, pB, a1, k1, a2, k2) ⟨hL4, HO0.o, HO1.o, HZ0.o, HZ1.o, HPQ.o, HLO0.o, HLO1.o⟩
    ·simp only [zA, zB, zC]
     refine (if_pos (by kernel_rfl)).mpr ?_
     go_wp2_with fail
     have hfx1 : Fr (fun _ => False) wx0 (wx0.alloc (.cells RZ 28)) := Fr.alloc (Fr.refl _ _) _
     have HLO1 : Jq7 (wE.heap.size ≤ wx0.heap.size) := jq7 (Fr.size hL1)
     replace HO0 := jq7 (RV.keep HO0.o hfx1)
     have HZ1 : Jq7 (Bk (wx0.alloc (.cells RZ 28)) wx0.heap.size RZ 28) := jq7 (Bk.new wx0 _)
     have HB1 : Jq7 (wx0.heap.size < (wx0.alloc (.cells RZ 28)).heap.size) := jq7 (Bk.lt HZ1.o)
     refine hK.out _ _ (hL1.then0 hfx1) (fun hL2 => ?_)
     clear hK K hL1
     clear hfx1
     generalize wx0.heap.size = pB at *
     generalize (wx0.alloc (.cells RZ 28)) = wx1 at *
     change wpAnyH _ _ _ _ _ 4 #[true, true, true, false, false, true, false, false] _ _
     refine wpAnyH_ready (rs := [3, 4]) (by kernel_rfl) (by simp) ?_
     refine AllReadyH.cons rfl (fun K hK => ?_) (AllReadyH.cons rfl (fun K hK => ?_) (AllReadyH.nil))
     ·simp only [zA, zB, zC]
      refine (if_pos (by kernel_rfl)).mpr ?_
      go_wp2_with fail
      refine (HRC.o _ (HF3.o.then0 hL2)).mono ?_
      rintro e wx2 ⟨a2, k2, rfl, hown1, hfx2⟩
      dsimp only
      replace HO0 := jq7 (RV.keep HO0.o hfx2)
      replace HZ1 := kq0 hfx2 HZ1
      have HO1 := jq7 hown1
      clear hown1
      replace HB1 : Jq7 (pB < wx2.heap.size) := jq7 (Bk.lt HZ1.o)
      refine hK.out _ _ (hL2.then0 hfx2) (fun hL3 => ?_)
      clear hK K hL2
      clear hfx2
      change wpAnyH _ _ _ _ _ 3 #[true, true, true, true, false, true, false, false] _ _
      refine rd1 4 rfl fun K hK => ?_
      simp only [zA, zB, zC]
      go_wp2_with fail
      have hfx3 : Fr (fun _ => False) wx2 (wx2.alloc (.cells RZ 28)) := Fr.alloc (Fr.refl _ _) _
      have HLO0 : Jq7 (wE.heap.size ≤ wx2.heap.size) := jq7 (Fr.size hL3)
      have HPQ : Jq7 (wx2.heap.size ≠ pB) := jq7 (by have h1 := Bk.lt HZ1.o;omega)
      replace HO0 := jq7 (RV.keep HO0.o hfx3)
      replace HZ1 := kq0 hfx3 HZ1
      replace HO1 := jq7 (RV.keep HO1.o hfx3)
      have HZ0 : Jq7 (Bk (wx2.alloc (.cells RZ 28)) wx2.heap.size RZ 28) := jq7 (Bk.new wx2 _)
      have HB0 : Jq7 (wx2.heap.size < (wx2.alloc (.cells RZ 28)).heap.size) := jq7 (Bk.lt HZ0.o)
      replace HB1 : Jq7 (pB < (wx2.alloc (.cells RZ 28)).heap.size) := jq7 (Bk.lt HZ1.o)
      refine hK.out _ _ (hL3.then0 hfx3) (fun hL4 => ?_)
      clear hK K hL3
      clear hfx3
      generalize wx2.heap.size = pA at *
      generalize (wx2.alloc (.cells RZ 28)) = wx3 at *
      change wpAnyH _ _ _ _ _ 2 #[true, true, true, true, true, true, false, false] _ _
      exact HTAIL (wx3, pA, pB, a1, k1, a2, k2) ⟨hL4, HO0.o, HO1.o, HZ0.o, HZ1.o, HPQ.o, HLO0.o, HLO1.o⟩
     ·simp only [zA, zB, zC]
      refine (if_pos (by kernel_rfl)).mpr ?_
      go_wp2_with fail
      have hfx2 : Fr (fun _ => False) wx1 (wx1.alloc (.cells RZ 28)) := Fr.alloc (Fr.refl _ _) _
      have HLO0 : Jq7 (wE.heap.size ≤ wx1.heap.size) := jq7 (Fr.size hL2)
      have HPQ : Jq7 (wx1.heap.size ≠ pB) := jq7 (by have h1 := Bk.lt HZ1.o;omega)
      replace HO0 := jq7 (RV.keep HO0.o hfx2)
      replace HZ1 := kq0 hfx2 HZ1
      have HZ0 : Jq7 (Bk (wx1.alloc (.cells RZ 28)) wx1.heap.size RZ 28) := jq7 (Bk.new wx1 _)
      have HB0 : Jq7 (wx1.heap.size < (wx1.alloc (.cells RZ 28)).heap.size) := jq7 (Bk.lt HZ0.o)
      replace HB1 : Jq7 (pB < (wx1.alloc (.cells RZ 28)).heap.size) := jq7 (Bk.lt HZ1.o)
      refine hK.out _ _ (hL2.then0 hfx2) (fun hL3 => ?_)
      clear hK K hL2
      clear hfx2
      generalize wx1.heap.size = pA at *
      generalize (wx1.alloc (.cells RZ 28)) = wx2 at *
      change wpAnyH _ _ _ _ _ 3 #[true, true, true, false, true, true, false, false] _ _
      refine rd1 3 rfl fun K hK => ?_
      simp only [zA, zB, zC]
      go_wp2_with fail
      refine (HRC.o _ (HF3.o.then0 hL3)).mono ?_
      rintro e wx3 ⟨a2, k2, rfl, hown1, hfx3⟩
      dsimp only
      replace HO0 := jq7 (RV.keep HO0.o hfx3)
      replace HZ1 := kq0 hfx3 HZ1
      replace HZ0 := kq0 hfx3 HZ0
      have HO1 := jq7 hown1
      clear hown1
      replace HB0 : Jq7 (pA < wx3.heap.size) := jq7 (Bk.lt HZ0.o)
      replace HB1 : Jq7 (pB < wx3.heap.size) := jq7 (Bk.lt HZ1.o)
      refine hK.out _ _ (hL3.then0 hfx3) (fun hL4 => ?_)
      clear hK K hL3
      clear hfx3
      change wpAnyH _ _ _ _ _ 2 #[true, true, true, true, true, true, false, false] _ _
      exact HTAIL (wx3, pA, pB, a1, k1, a2, k2) ⟨hL4, HO0.o, HO1.o, HZ0.o, HZ1.o, HPQ.o, HLO0.o, HLO1.o⟩
   ·simp only [zA, zB, zC]
    refine (if_pos (by kernel_rfl)).mpr ?_
    go_wp2_with fail
    have hfx0 : Fr (fun _ => False) wd (wd.alloc (.cells RZ 28)) := Fr.alloc (Fr.refl _ _) _
    have HLO0 : Jq7 (wE.heap.size ≤ wd.heap.size) := jq7 (Fr.size hL0)
    have HZ0 : Jq7 (Bk (wd.alloc (.cells RZ 28)) wd.heap.size RZ 28) := jq7 (Bk.new wd _)
    have HB0 : Jq7 (wd.heap.size < (wd.alloc (.cells RZ 28)).heap.size) := jq7 (Bk.lt HZ0.o)
    refine hK.out _ _ (hL0.then0 hfx0) (fun hL1 => ?_)
    clear hK K hL0
    clear hfx0
    generalize wd.heap.size = pA at *
    generalize (wd.alloc (.cells RZ 28)) = wx0 at *
    change wpAnyH _ _ _ _ _ 5 #[true, false, true, false, true, false, false, false] _ _
    refine wpAnyH_ready (rs := [1, 5]) (by kernel_rfl) (by simp) ?_
    refine AllReadyH.cons rfl (fun K hK => ?_) (AllReadyH.cons rfl (fun K hK => ?_) (AllReadyH.nil))
    ·simp only [zA, zB, zC]
     refine (if_pos (by kernel_rfl)).mpr ?_
     go_wp2_with fail
     refine (HRC.o _ (HF3.o.then0 hL1)).mono ?_
     rintro e wx1 ⟨a1, k1, rfl, hown0, hfx1⟩
     dsimp only
     replace HZ0 := kq0 hfx1 HZ0
     have HO0 := jq7 hown0
     clear hown0
     replace HB0 : Jq7 (pA < wx1.heap.size) := jq7 (Bk.lt HZ0.o)
     refine hK.out _ _ (hL1.then0 hfx1) (fun hL2 => ?_)
     clear hK K hL1
     clear hfx1
     change wpAnyH _ _ _ _ _ 4 #[true, true, true, false, true, false, false, false] _ _
     refine wpAnyH_ready (rs := [3, 5]) (by kernel_rfl) (by simp) ?_
     refine AllReadyH.cons rfl (fun K hK => ?_) (AllReadyH.cons rfl (fun K hK => ?_) (AllReadyH.nil))
     ·simp only [zA, zB, zC]
      refine (if_pos (by kernel_rfl)).mpr ?_
      go_wp2_with fail
      refine (HRC.o _ (HF3.o.then0 hL2)).mono ?_
      rintro e wx2 ⟨a2, k2, rfl, hown1, hfx2⟩
      dsimp only
      replace HZ0 := kq0 hfx2 HZ0
      replace HO0 := jq7 (RV.keep HO0.o hfx2)
      have HO1 := jq7 hown1
      clear hown1
      replace HB0 : Jq7 (pA < wx2.heap.size) := jq7 (Bk.lt HZ0.o)
      refine hK.out _ _ (hL2.then0 hfx2) (fun hL3 => ?_)
      clear hK K hL2
      clear hfx2
      change wpAnyH _ _ _ _ _ 3 #[true, true, true, true, true, false, false, false] _ _
      refine rd1 5 rfl fun K hK => ?_
      simp only [zA, zB, zC]
      go_wp2_with fail
      have hfx3 : Fr (fun _ => False) wx2 (wx2.alloc (.cells RZ 28)) := Fr.alloc (Fr.refl _ _) _
      have HLO1 : Jq7 (wE.heap.size ≤ wx2.heap.size) := jq7 (Fr.size hL3)
      have HPQ : Jq7 (pA ≠ wx2.heap.size) := jq7 (by have h1 := Bk.lt HZ0.o;omega)
      replace HZ0 := kq0 hfx3 HZ0
      replace HO0 := jq7 (RV.keep HO0.o hfx3)
      replace HO1 := jq7 (RV.keep HO1.o hfx3)
      have HZ1 : Jq7 (Bk (wx2.alloc (.cells RZ 28)) wx2.heap.size RZ 28) := jq7 (Bk.new wx2 _)
      have HB1 : Jq7 (wx2.heap.size < (wx2.alloc (.cells RZ 28)).heap.size) := jq7 (Bk.lt HZ1.o)
      replace HB0 : Jq7 (pA < (wx2.alloc (.cells RZ 28)).heap.size) := jq7 (Bk.lt HZ0.o)
      refine hK.out _ _ (hL3.then0 hfx3) (fun hL4 => ?_)
      clear hK K hL3
      clear hfx3
      generalize wx2.heap.size = pB at *
      generalize (wx2.alloc (.cells RZ 28)) = wx3 at *
      change wpAnyH _ _ _ _ _ 2 #[true, true, true, true, true, true, false, false] _ _
      exact HTAIL (wx3, pA, pB, a1, k1, a2, k2) ⟨hL4, HO0.o, HO1.o, HZ0.o, HZ1.o, HPQ.o, HLO0.o, HLO1.o⟩
     ·simp only [zA, zB, zC]
      refine (if_pos (by kernel_rfl)).mpr ?_
      go_wp2_with fail
      have hfx2 : Fr (fun _ => False) wx1 (wx1.alloc (.cells RZ 28)) := Fr.alloc (Fr.refl _ _) _
      have HLO1 : Jq7 (wE.heap.size ≤ wx1.heap.size) := jq7 (Fr.size hL2)
      have HPQ : Jq7 (pA ≠ wx1.heap.size) := jq7 (by have h1 := Bk.lt HZ0.o;omega)
      replace HZ0 := kq0 hfx2 HZ0
      replace HO0 := jq7 (RV.keep HO0.o hfx2)
      have HZ1 : Jq7 (Bk (wx1.alloc (.cells RZ 28)) wx1.heap.size RZ 28) := jq7 (Bk.new wx1 _)
      have HB1 : Jq7 (wx1.heap.size < (wx1.alloc (.cells RZ 28)).heap.size) := jq7 (Bk.lt HZ1.o)
      replace HB0 : Jq7 (pA < (wx1.alloc (.cells RZ 28)).heap.size) := jq7 (Bk.lt HZ0.o)
      refine hK.out _ _ (hL2.then0 hfx2) (fun hL3 => ?_)
      clear hK K hL2
      clear hfx2
      generalize wx1.heap.size = pB at *
      generalize (wx1.alloc (.cells RZ 28)) = wx2 at *
      change wpAnyH _ _ _ _ _ 3 #[true, true, true, false, true, true, false, false] _ _
      refine rd1 3 rfl fun K hK => ?_
      simp only [zA, zB, zC]
      go_wp2_with fail
      refine (HRC.o _ (HF3.o.then0 hL3)).mono ?_
      rintro e wx3 ⟨a2, k2, rfl, hown1, hfx3⟩
      dsimp only
      replace HZ0 := kq0 hfx3 HZ0
      replace HO0 := jq7 (RV.keep HO0.o hfx3)
      replace HZ1 := kq0 hfx3 HZ1
      have HO1 := jq7 hown1
      clear hown1
      replace HB0 : Jq7 (pA < wx3.heap.size) := jq7 (Bk.lt HZ0.o)
      replace HB1 : Jq7 (pB < wx3.heap.size) := jq7 (Bk.lt HZ1.o)
      refine hK.out _ _ (hL3.then0 hfx3) (fun hL4 => ?_)
      clear hK K hL3
      clear hfx3
      change wpAnyH _ _ _ _ _ 2 #[true, true, true, true, true, true, false, false] _ _
      exact HTAIL (wx3, pA, pB, a1, k1, a2, k2) ⟨hL4, HO0.o, HO1.o, HZ0.o, HZ1.o, HPQ.o, HLO0.o, HLO1.o⟩
    ·simp only [zA, zB, zC]
     refine (if_pos (by kernel_rfl)).mpr ?_
     go_wp2_with fail
     have hfx1 : Fr (fun _ => False) wx0 (wx0.alloc (.cells RZ 28)) := Fr.alloc (Fr.refl _ _) _
     have HLO1 : Jq7 (wE.heap.size ≤ wx0.heap.size) := jq7 (Fr.size hL1)
     have HPQ : Jq7 (pA ≠ wx0.heap.size) := jq7 (by have h1 := Bk.lt HZ0.o;omega)
     replace HZ0 := kq0 hfx1 HZ0
     have HZ1 : Jq7 (Bk (wx0.alloc (.cells RZ 28)) wx0.heap.size RZ 28) := jq7 (Bk.new wx0 _)
     have HB1 : Jq7 (wx0.heap.size < (wx0.alloc (.cells RZ 28)).heap.size) := jq7 (Bk.lt HZ1.o)
     replace HB0 : Jq7 (pA < (wx0.alloc (.cells RZ 28)).heap.size) := jq7 (Bk.lt HZ0.o)
     refine hK.out _ _ (hL1.then0 hfx1) (fun hL2 => ?_)
     clear hK K hL1
     clear hfx1
     generalize wx0.heap.size = pB at *
     generalize (wx0.alloc (.cells RZ 28)) = wx1 at *
     change wpAnyH _ _ _ _ _ 4 #[true, false, true, false, true, true, false, false] _ _
     refine rd1 1 rfl fun K hK => ?_
     simp only [zA, zB, zC]
     go_wp2_with fail
     refine (HRC.o _ (HF3.o.then0 hL2)).mono ?_
     rintro e wx2 ⟨a1, k1, rfl, hown0, hfx2⟩
     dsimp only
     replace HZ0 := kq0 hfx2 HZ0
     replace HZ1 := kq0 hfx2 HZ1
     have HO0 := jq7 hown0
     clear hown0
     replace HB0 : Jq7 (pA < wx2.heap.size) := jq7 (Bk.lt HZ0.o)
     replace HB1 : Jq7 (pB < wx2.heap.size) := jq7 (Bk.lt HZ1.o)
     refine hK.out _ _ (hL2.then0 hfx2) (fun hL3 => ?_)
     clear hK K hL2
     clear hfx2
     change wpAnyH _ _ _ _ _ 3 #[true, true, true, false, true, true, false, false] _ _
     refine rd1 3 rfl fun K hK => ?_
     simp only [zA, zB, zC]
     go_wp2_with fail
     refine (HRC.o _ (HF3.o.then0 hL3)).mono ?_
     rintro e wx3 ⟨a2, k2, rfl, hown1, hfx3⟩
     dsimp only
     replace HZ0 := kq0 hfx3 HZ0
     replace HZ1 := kq0 hfx3 HZ1
     replace HO0 := jq7 (RV.keep HO0.o hfx3)
     have HO1 := jq7 hown1
     clear hown1
     replace HB0 : Jq7 (pA < wx3.heap.size) := jq7 (Bk.lt HZ0.o)
     replace HB1 : Jq7 (pB < wx3.heap.size) := jq7 (Bk.lt HZ1.o)
     refine hK.out _ _ (hL3.then0 hfx3) (fun hL4 => ?_)
     clear hK K hL3
     clear hfx3
     change wpAnyH _ _ _ _ _ 2 #[true, true, true, true, true, true, false, false] _ _
     exact HTAIL (wx3, pA, pB, a1, k1, a2, k2) ⟨hL4, HO0.o, HO1.o, HZ0.o, HZ1.o, HPQ.o, HLO0.o, HLO1.o⟩
   ·simp only [zA, zB, zC]
    refine (if_pos (by kernel_rfl)).mpr ?_
    go_wp2_with fail
    have hfx0 : Fr (fun _ => False) wd (wd.alloc (.cells RZ 28)) := Fr.alloc (Fr.refl _ _) _
    have HLO1 : Jq7 (wE.heap.size ≤ wd.heap.size) := jq7 (Fr.size hL0)
    have HZ1 : Jq7 (Bk (wd.alloc (.cells RZ 28)) wd.heap.size RZ 28) := jq7 (Bk.new wd _)
    have HB1 : Jq7 (wd.heap.size < (wd.alloc (.cells RZ 28)).heap.size) := jq7 (Bk.lt HZ1.o)
    refine hK.out _ _ (hL0.then0 hfx0) (fun hL1 => ?_)
    clear hK K hL0
    clear hfx0
    generalize wd.heap.size = pB at *
    generalize (wd.alloc (.cells RZ 28)) = wx0 at *
    change wpAnyH _ _ _ _ _ 5 #[true, false, true, false, false, true, false, false] _ _
    refine wpAnyH_ready (rs := [1, 4]) (by kernel_rfl) (by simp) ?_
    refine AllReadyH.cons rfl (fun K hK => ?_) (AllReadyH.cons rfl (fun K hK => ?_) (AllReadyH.nil))
    ·simp only [zA, zB, zC]
     refine (if_pos (by kernel_rfl)).mpr ?_
     go_wp2_with fail
     refine (HRC.o _ (HF3.o.then0 hL1)).mono ?_
     rintro e wx1 ⟨a1, k1, rfl, hown0, hfx1⟩
     dsimp only
     replace HZ1 := kq0 hfx1 HZ1
     have HO0 := jq7 hown0
     clear hown0
     replace HB1 : Jq7 (pB < wx1.heap.size) := jq7 (Bk.lt HZ1.o)
     refine hK.out _ _ (hL1.then0 hfx1) (fun hL2 => ?_)
     clear hK K hL1
     clear hfx1
     change wpAnyH _ _ _ _ _ 4 #[true, true, true, false, false, true, false, false] _ _
     refine wpAnyH_ready (rs := [3, 4]) (by kernel_rfl) (by simp) ?_
     refine AllReadyH.cons rfl (fun K hK => ?_) (AllReadyH.cons rfl (fun K hK => ?_) (AllReadyH.nil))
     ·simp only [zA, zB, zC]
      refine (if_pos (by kernel_rfl)).mpr ?_
      go_wp2_with fail
      refine (HRC.o _ (HF3.o.then0 hL2)).mono ?_
      rintro e wx2 ⟨a2, k2, rfl, hown1, hfx2⟩
      dsimp only
      replace HZ1 := kq0 hfx2 HZ1
      replace HO0 := jq7 (RV.keep HO0.o hfx2)
      have HO1 := jq7 hown1
      clear hown1
      replace HB1 : Jq7 (pB < wx2.heap.size) := jq7 (Bk.lt HZ1.o)
      refine hK.out _ _ (hL2.then0 hfx2) (fun hL3 => ?_)
      clear hK K hL2
      clear hfx2
      change wpAnyH _ _ _ _ _ 3 #[true, true, true, true, false, true, false, false] _ _
      refine rd1 4 rfl fun K hK => ?_
      simp only [zA, zB, zC]
      go_wp2_with fail
      have hfx3 : Fr (fun _ => False) wx2 (wx2.alloc (.cells RZ 28)) := Fr.alloc (Fr.refl _ _) _
      have HLO0 : Jq7 (wE.heap.size ≤ wx2.heap.size) := jq7 (Fr.size hL3)
      have HPQ : Jq7 (wx2.heap.size ≠ pB) := jq7 (by have h1 := Bk.lt HZ1.o;omega)
      replace HZ1 := kq0 hfx3 HZ1
      replace HO0 := jq7 (RV.keep HO0.o hfx3)
      replace HO1 := jq7 (RV.keep HO1.o hfx3)
      have HZ0 : Jq7 (Bk (wx2.alloc (.cells RZ 28)) wx2.heap.size RZ 28) := jq7 (Bk.new wx2 _)
      have HB0 : Jq7 (wx2.heap.size < (wx2.alloc (.cells RZ 28)).heap.size) := jq7 (Bk.lt HZ0.o)
      replace HB1 : Jq7 (pB < (wx2.alloc (.cells RZ 28)).heap.size) := jq7 (Bk.lt HZ1.o)
      refine hK.out _ _ (hL3.then0 hfx3) (fun hL4 => ?_)
      clear hK K hL3
      clear hfx3
      generalize wx2.heap.size = pA at *
      generalize (wx2.alloc (.cells RZ 28)) = wx3 at *
      change wpAnyH _ _ _ _ _ 2 #[true, true, true, true, true, true, false, false] _ _
      exact HTAIL (wx3, pA, pB, a1, k1, a2, k2) ⟨hL4, HO0.o, HO1.o, HZ0.o, HZ1.o, HPQ.o, HLO0.o, HLO1.o⟩
     ·simp only [zA, zB, zC]
      refine (if_pos (by kernel_rfl)).mpr ?_
      go_wp2_with fail
      have hfx2 : Fr (fun _ => False) wx1 (wx1.alloc (.cells RZ 28)) := Fr.alloc (Fr.refl _ _) _
      have HLO0 : Jq7 (wE.heap.size ≤ wx1.heap.size) := jq7 (Fr.size hL2)
      have HPQ : Jq7 (wx1.heap.size ≠ pB) := jq7 (by have h1 := Bk.lt HZ1.o;omega)
      replace HZ1 := kq0 hfx2 HZ1
      replace HO0 := jq7 (RV.keep HO0.o hfx2)
      have HZ0 : Jq7 (Bk (wx1.alloc (.cells RZ 28)) wx1.heap.size RZ 28) := jq7 (Bk.new wx1 _)
      have HB0 : Jq7 (wx1.heap.size < (wx1.alloc (.cells RZ 28)).heap.size) := jq7 (Bk.lt HZ0.o)
      replace HB1 : Jq7 (pB < (wx1.alloc (.cells RZ 28)).heap.size) := jq7 (Bk.lt HZ1.o)
      refine hK.out _ _ (hL2.then0 hfx2) (fun hL3 => ?_)
      clear hK K hL2
      clear hfx2
      generalize wx1.heap.size = pA at *
      generalize (wx1.alloc (.cells RZ 28)) = wx2 at *
      change wpAnyH _ _ _ _ _ 3 #[true, true, true, false, true, true, false, false] _ _
      refine rd1 3 rfl fun K hK => ?_
      simp only [zA, zB, zC]
      go_wp2_with fail
      refine (HRC.o _ (HF3.o.then0 hL3)).mono ?_
      rintro e wx3 ⟨a2, k2, rfl, hown1, hfx3⟩
      dsimp only
      replace HZ1 := kq0 hfx3 HZ1
      replace HO0 := jq7 (RV.keep HO0.o hfx3)
      replace HZ0 := kq0 hfx3 HZ0
      have HO1 := jq7 hown1
      clear hown1
      replace HB0 : Jq7 (pA < wx3.heap.size) := jq7 (Bk.lt HZ0.o)
      replace HB1 : Jq7 (pB < wx3.heap.size) := jq7 (Bk.lt HZ1.o)
      refine hK.out _ _ (hL3.then0 hfx3) (fun hL4 => ?_)
      clear hK K hL3
      clear hfx3
      change wpAnyH _ _ _ _ _ 2 #[true, true, true, true, true, true, false, false] _ _
      exact HTAIL (wx3, pA, pB, a1, k1, a2, k2) ⟨hL4, HO0.o, HO1.o, HZ0.o, HZ1.o, HPQ.o, HLO0.o, HLO1.o⟩
    ·simp only [zA, zB, zC]
     refine (if_pos (by kernel_rfl)).mpr ?_
     go_wp2_with fail
     have hfx1 : Fr (fun _ => False) wx0 (wx0.alloc (.cells RZ 28)) := Fr.alloc (Fr.refl _ _) _
     have HLO0 : Jq7 (wE.heap.size ≤ wx0.heap.size) := jq7 (Fr.size hL1)
     have HPQ : Jq7 (wx0.heap.size ≠ pB) := jq7 (by have h1 := Bk.lt HZ1.o;omega)
     replace HZ1 := kq0 hfx1 HZ1
     have HZ0 : Jq7 (Bk (wx0.alloc (.cells RZ 28)) wx0.heap.size RZ 28) := jq7 (Bk.new wx0 _)
     have HB0 : Jq7 (wx0.heap.size < (wx0.alloc (.cells RZ 28)).heap.size) := jq7 (Bk.lt HZ0.o)
     replace HB1 : Jq7 (pB < (wx0.alloc (.cells RZ 28)).heap.size) := jq7 (Bk.lt HZ1.o)
     refine hK.out _ _ (hL1.then0 hfx1) (fun hL2 => ?_)
     clear hK K hL1
     clear hfx1
     generalize wx0.heap.size = pA at *
     generalize (wx0.alloc (.cells RZ 28)) = wx1 at *
     change wpAnyH _ _ _ _ _ 4 #[true, false, true, false, true, true, false, false] _ _
     refine rd1 1 rfl fun K hK => ?_
     simp only [zA, zB, zC]
     go_wp2_with fail
     refine (HRC.o _ (HF3.o.then0 hL2)).mono ?_
     rintro e wx2 ⟨a1, k1, rfl, hown0, hfx2⟩
     dsimp only
     replace HZ1 := kq0 hfx2 HZ1
     replace HZ0 := kq0 hfx2 HZ0
     have HO0 := jq7 hown0
     clear hown0
     replace HB0 : Jq7 (pA < wx2.heap.size) := jq7 (Bk.lt HZ0.o)
     replace HB1 : Jq7 (pB < wx2.heap.size) := jq7 (Bk.lt HZ1.o)
     refine hK.out _ _ (hL2.then0 hfx2) (fun hL3 => ?_)
     clear hK K hL2
     clear hfx2
     change wpAnyH _ _ _ _ _ 3 #[true, true, true, false, true, true, false, false] _ _
     refine rd1 3 rfl fun K hK => ?_
     simp only [zA, zB, zC]
     go_wp2_with fail
     refine (HRC.o _ (HF3.o.then0 hL3)).mono ?_
     rintro e wx3 ⟨a2, k2, rfl, hown1, hfx3⟩
     dsimp only
     replace HZ1 := kq0 hfx3 HZ1
     replace HZ0 := kq0 hfx3 HZ0
     replace HO0 := jq7 (RV.keep HO0.o hfx3)
     have HO1 := jq7 hown1
     clear hown1
     replace HB0 : Jq7 (pA < wx3.heap.size) := jq7 (Bk.lt HZ0.o)
     replace HB1 : Jq7 (pB < wx3.heap.size) := jq7 (Bk.lt HZ1.o)
     refine hK.out _ _ (hL3.then0 hfx3) (fun hL4 => ?_)
     clear hK K hL3
     clear hfx3
     change wpAnyH _ _ _ _ _ 2 #[true, true, true, true, true, true, false, false] _ _
     exact HTAIL (wx3, pA, pB, a1, k1, a2, k2) ⟨hL4, HO0.o, HO1.o, HZ0.o, HZ1.o, HPQ.o, HLO0.o, HLO1.o⟩
   )
  clear hKA
  refine wp_region_noPanic ?_
  refine wp_region_held_drew (S := (fun W : World => Fr (fun _ => False) w2 W)) (by kernel_rfl) (Fr.drew (Fr.refl _ _)) (fun hL0 => ?_)
  generalize w2.drew = wd at *
  change wpAnyH _ _ _ _ _ 8 #[false, false, false, false, false, false, false, false] _ _
  refine cutH (α := World × Nat × Nat × Option Addr × Nat × Option Addr × Nat × Option Addr × Nat × Option Addr × Nat) 2 #[true, true, true, true, true, true, false, false] (fun x => Fr (fun _ => False) w2 x.1 ∧ DV x.1 d x.2.2.2.1 x.2.2.2.2.1 x.2.2.2.2.2.1 x.2.2.2.2.2.2.1 ∧ DV x.1 d x.2.2.2.2.2.2.2.1 x.2.2.2.2.2.2.2.2.1 x.2.2.2.2.2.2.2.2.2.1 x.2.2.2.2.2.2.2.2.2.2 ∧ Bk x.1 x.2.1 DZ 25 ∧ Bk x.1 x.2.2.1 DZ 25 ∧ x.2.1 ≠ x.2.2.1 ∧ w2.heap.size ≤ x.2.1 ∧ w2.heap.size ≤ x.2.2.1) (fun x => { tmps := #[.agg (dval d sa sc ca cc), .agg (rval m a c), .agg PX, .pointer (some ⟨w.heap.size, 0, none⟩), .pointer (some ⟨w.heap.size + 1, 0, none⟩), .pointer (some ⟨w.heap.size + 1 + 1, 0, none⟩), .bool false, .pointer (some ⟨x.2.1, 0, none⟩), .pointer (some ⟨x.2.2.1, 0, none⟩), undef, undef, undef, undef, undef, undef, .bool true, .bool false, .agg (dval d sa sc ca cc), .bool false, .agg (dval d sa sc ca cc), .agg (dval d x.2.2.2.1 x.2.2.2.2.1 x.2.2.2.2.2.1 x.2.2.2.2.2.2.1), .agg (dval d sa sc ca cc), .agg (dval d x.2.2.2.2.2.2.2.1 x.2.2.2.2.2.2.2.2.1 x.2.2.2.2.2.2.2.2.2.1 x.2.2.2.2.2.2.2.2.2.2), undef, undef, undef, undef, undef, undef, undef, undef, undef, undef, undef, undef, undef, undef, undef, undef, undef, undef, undef, undef, undef, undef, undef, undef, undef, undef, undef, undef, undef, undef, undef, undef], defers := [] }) (fun x => x.1) ?_ (fun HTAIL => ?_)
  ·rintro ⟨wx3, pA, pB, s1, n1, c1, m1, s2, n2, c2, m2⟩ ⟨hL4, ho0, ho1, hz0, hz1, hpq, hl0, hl1⟩
   dsimp only at *
   have HO0 := jq7 ho0
   have HO1 := jq7 ho1
   have HZ0 := jq7 hz0
   have HZ1 := jq7 hz1
   have HPQ := jq7 hpq
   have HLO0 := jq7 hl0
   have HLO1 := jq7 hl1
   clear ho0 ho1 hz0 hz1 hpq hl0 hl1
   refine rd1 6 rfl fun K hK => ?_
   simp only [zA, zB, zC]
   refine wp_store_row 25 _ _ rfl pA (dval d s1 n1 c1 m1) rfl rfl 25 DZ HZ0.o (HID.o _ _ _ _ _) rfl (HDO.o _ _ _ _ _) ?_
   have hfx4 := Fr.row1 wx3 pA (dval d s1 n1 c1 m1)
   replace HO0 := jq7 (DV.past HO0.o HOK.o hfx4 HZ0.o DZ_no)
   replace HO1 := jq7 (DV.past HO1.o HOK.o hfx4 HZ0.o DZ_no)
   replace HZ1 := jq7 ((show Bk (wx3.setRow pA (dval d s1 n1 c1 m1)) pB DZ 25 from ArrKit.Bk.rowOther HZ1.o _ (HPQ.o.symm)))
   have HX0' : Jq7 (Bk (wx3.setRow pA (dval d s1 n1 c1 m1)) pA (dval d s1 n1 c1 m1) 25) := jq7 (ArrKit.Bk.row HZ0.o _)
   clear HZ0
   have HZ0 := HX0'
   clear HX0'
   refine hK.out _ _ (ArrKit.Fr.row hL4 _ _ (.inl HLO0.o)) (fun hL5 => ?_)
   clear hK K hL4
   clear hfx4
   generalize (wx3.setRow pA (dval d s1 n1 c1 m1)) = wx4 at *
   change wpAnyH _ _ _ _ _ 1 #[true, true, true, true, true, true, true, false] _ _
   refine rd1 7 rfl fun K hK => ?_
   simp only [zA, zB, zC]
   refine wp_store_row 25 _ _ rfl pB (dval d s2 n2 c2 m2) rfl rfl 25 DZ HZ1.o (HID.o _ _ _ _ _) rfl (HDO.o _ _ _ _ _) ?_
   have hfx5 := Fr.row1 wx4 pB (dval d s2 n2 c2 m2)
   replace HO0 := jq7 (DV.past HO0.o HOK.o hfx5 HZ1.o DZ_no)
   replace HO1 := jq7 (DV.past HO1.o HOK.o hfx5 HZ1.o DZ_no)
   replace HZ0 := jq7 ((show Bk (wx4.setRow pB (dval d s2 n2 c2 m2)) pA (dval d s1 n1 c1 m1) 25 from ArrKit.Bk.rowOther HZ0.o _ (HPQ.o)))
   have HX1' : Jq7 (Bk (wx4.setRow pB (dval d s2 n2 c2 m2)) pB (dval d s2 n2 c2 m2) 25) := jq7 (ArrKit.Bk.row HZ1.o _)
   clear HZ1
   have HZ1 := HX1'
   clear HX1'
   refine hK.out _ _ (ArrKit.Fr.row hL5 _ _ (.inl HLO1.o)) (fun hL6 => ?_)
   clear hK K hL5
   clear hfx5
   generalize (wx4.setRow pB (dval d s2 n2 c2 m2)) = wx5 at *
   change wpAnyH _ _ _ _ _ 0 #[true, true, true, true, true, true, true, true] _ _
   refine wpAnyH_done (by kernel_rfl) ?_ _
   refine NoPanic.normal ?_
   have HEND := jq7 hL6
   clear hL6
   exact HREST.o wx5 pA pB s1 n1 c1 m1 s2 n2 c2 m2 HEND.o ⟨HZ0.o, HO0.o⟩ ⟨HZ1.o, HO1.o⟩ HPQ.o HLO0.o HLO1.o
  refine tk (i := 0) (v := .agg (dval d sa sc ca cc)) rfl (yields_row (by kernel_rfl) 25 _ rfl (w.heap.size) rfl 25 (dval d sa sc ca cc) (0, 0) _ (fun _ h => Fr.keep h HX2.o (fun h => h)) Tryz.underlying25 rfl (HID.o _ _ _ _ _)) hL0 ?_
  refine tk (i := 2) (v := .agg (dval d sa sc ca cc)) rfl (yields_row (by kernel_rfl) 25 _ rfl (w.heap.size) rfl 25 (dval d sa sc ca cc) (0, 0) _ (fun _ h => Fr.keep h HX2.o (fun h => h)) Tryz.underlying25 rfl (HID.o _ _ _ _ _)) hL0 ?_
  simp only [Act.put,zA,zB,zC,zD,zE,zF]
  change wpAnyH _ _ _ _ _ 6 #[true, false, true, false, false, false, false, false] _ _
  refine wpAnyH_ready (rs := [1, 4, 5]) (by kernel_rfl) (by simp) ?_
  refine AllReadyH.cons rfl (fun K hK => ?_) (AllReadyH.cons rfl (fun K hK => ?_) (AllReadyH.cons rfl (fun K hK => ?_) (AllReadyH.nil)))
  ·simp only [zA, zB, zC]
   refine (if_pos (by kernel_rfl)).mpr ?_
   go_wp2_with fail
   refine (HDC.o _ (HF2.o.then0 hL0)).mono ?_
   rintro e wx0 ⟨s1, n1, c1, m1, rfl, hown0, hfx0⟩
   dsimp only
   have HO0 := jq7 hown0
   clear hown0
   refine hK.out _ _ (hL0.then0 hfx0) (fun hL1 => ?_)
   clear hK K hL0
   clear hfx0
   change wpAnyH _ _ _ _ _ 5 #[true, true, true, false, false, false, false, false] _ _
   refine wpAnyH_ready (rs := [3, 4, 5]) (by kernel_rfl) (by simp) ?_
   refine AllReadyH.cons rfl (fun K hK => ?_) (AllReadyH.cons rfl (fun K hK => ?_) (AllReadyH.cons rfl (fun K hK => ?_) (AllReadyH.nil)))
   ·simp only [zA, zB, zC]
    refine (if_pos (by kernel_rfl)).mpr ?_
    go_wp2_with fail
    refine (HDC.o _ (HF2.o.then0 hL1)).mono ?_
    rintro e wx1 ⟨s2, n2, c2, m2, rfl, hown1, hfx1⟩
    dsimp only
    replace HO0 := jq7 (DV.keep HO0.o hfx1)
    have HO1 := jq7 hown1
    clear hown1
    refine hK.out _ _ (hL1.then0 hfx1) (fun hL2 => ?_)
    clear hK K hL1
    clear hfx1
    change wpAnyH _ _ _ _ _ 4 #[true, true, true, true, false, false, false, false] _ _
    refine wpAnyH_ready (rs := [4, 5]) (by kernel_rfl) (by simp) ?_
    refine AllReadyH.cons rfl (fun K hK => ?_) (AllReadyH.cons rfl (fun K hK => ?_) (AllReadyH.nil))
    ·simp only [zA, zB, zC]
     refine (if_pos (by kernel_rfl)).mpr ?_
     go_wp2_with fail
     have hfx2 : Fr (fun _ => False) wx1 (wx1.alloc (.cells DZ 25)) := Fr.alloc (Fr.refl _ _) _
     have HLO0 : Jq7 (w2.heap.size ≤ wx1.heap.size) := jq7 (Fr.size hL2)
     replace HO0 := jq7 (DV.keep HO0.o hfx2)
     replace HO1 := jq7 (DV.keep HO1.o hfx2)
     have HZ0 : Jq7 (Bk (wx1.alloc (.cells DZ 25)) wx1.heap.size DZ 25) := jq7 (Bk.new wx1 _)
     have HB0 : Jq7 (wx1.heap.size < (wx1.alloc (.cells DZ 25)).heap.size) := jq7 (Bk.lt HZ0.o)
     refine hK.out _ _ (hL2.then0 hfx2) (fun hL3 => ?_)
     clear hK K hL2
     clear hfx2
     generalize wx1.heap.size = pA at *
     generalize (wx1.alloc (.cells DZ 25)) = wx2 at *
     change wpAnyH _ _ _ _ _ 3 #[true, true, true, true, true, false, false, false] _ _
     refine rd1 5 rfl fun K hK => ?_
     simp only [zA, zB, zC]
     go_wp2_with fail
     have hfx3 : Fr (fun _ => False) wx2 (wx2.alloc (.cells DZ 25)) := Fr.alloc (Fr.refl _ _) _
     have HLO1 : Jq7 (w2.heap.size ≤ wx2.heap.size) := jq7 (Fr.size hL3)
     have HPQ : Jq7 (pA ≠ wx2.heap.size) := jq7 (by have h1 := Bk.lt HZ0.o;omega)
     replace HO0 := jq7 (DV.keep HO0.o hfx3)
     replace HO1 := jq7 (DV.keep HO1.o hfx3)
     replace HZ0 := kq0 hfx3 HZ0
     have HZ1 : Jq7 (Bk (wx2.alloc (.cells DZ 25)) wx2.heap.size DZ 25) := jq7 (Bk.new wx2 _)
     have HB1 : Jq7 (wx2.heap.size < (wx2.alloc (.cells DZ 25)).heap.size) := jq7 (Bk.lt HZ1.o)
     replace HB0 : Jq7 (pA < (wx2.alloc (.cells DZ 25)).heap.size) := jq7 (Bk.lt HZ0.o)
     refine hK.out _ _ (hL3.then0 hfx3) (fun hL4 => ?_)
     clear hK K hL3
     clear hfx3
     generalize wx2.heap.size = pB at *
     generalize (wx2.alloc (.cells DZ 25)) = wx3 at *
     change wpAnyH _ _ _ _ _ 2 #[true, true, true, true, true, true, false, false] _ _
     exact HTAIL (wx3, pA, pB, s1, n1, c1, m1, s2, n2, c2, m2) ⟨hL4, HO0.o, HO1.o, HZ0.o, HZ1.o, HPQ.o, HLO0.o, HLO1.o⟩
    ·simp only [zA, zB, zC]
     refine (if_pos (by kernel_rfl)).mpr ?_
     go_wp2_with fail
     have hfx2 : Fr (fun _ => False) wx1 (wx1.alloc (.cells DZ 25)) := Fr.alloc (Fr.refl _ _) _
     have HLO1 : Jq7 (w2.heap.size ≤ wx1.heap.size) := jq7 (Fr.size hL2)
     replace HO0 := jq7 (DV.keep HO0.o hfx2)
     replace HO1 := jq7 (DV.keep HO1.o hfx2)
     have HZ1 : Jq7 (Bk (wx1.alloc (.cells DZ 25)) wx1.heap.size DZ 25) := jq7 (Bk.new wx1 _)
     have HB1 : Jq7 (wx1.heap.size < (wx1.alloc (.cells DZ 25)).heap.size) := jq7 (Bk.lt HZ1.o)
     refine hK.out _ _ (hL2.then0 hfx2) (fun hL3 => ?_)
     clear hK K hL2
     clear hfx2
     generalize wx1.heap.size = pB at *
     generalize (wx1.alloc (.cells DZ 25)) = wx2 at *
     change wpAnyH _ _ _ _ _ 3 #[true, true, true, true, false, true, false, false] _ _
     refine rd1 4 rfl fun K hK => ?_
     simp only [zA, zB, zC]
     go_wp2_with fail
     have hfx3 : Fr (fun _ => False) wx2 (wx2.alloc (.cells DZ 25)) := Fr.alloc (Fr.refl _ _) _
     have HLO0 : Jq7 (w2.heap.size ≤ wx2.heap.size) := jq7 (Fr.size hL3)
     have HPQ : Jq7 (wx2.heap.size ≠ pB) := jq7 (by have h1 := Bk.lt HZ1.o;omega)
     replace HO0 := jq7 (DV.keep HO0.o hfx3)
     replace HO1 := jq7 (DV.keep HO1.o hfx3)
     replace HZ1 := kq0 hfx3 HZ1
     have HZ0 : Jq7 (Bk (wx2.alloc (.cells DZ 25)) wx2.heap.size DZ 25) := jq7 (Bk.new wx2 _)
     have HB0 : Jq7 (wx2.heap.size < (wx2.alloc (.cells DZ 25)).heap.size) := jq7 (Bk.lt HZ0.o)
     replace HB1 : Jq7 (pB < (wx2.alloc (.cells DZ 25)).heap.size) := jq7 (Bk.lt HZ1.o)
     refine hK.out _ _ (hL3.then0 hfx3) (fun hL4 => ?_)
     clear hK K hL3
     clear hfx3
     generalize wx2.heap.size = pA at *
     generalize (wx2.alloc (.cells DZ 25)) = wx3 at *
     change wpAnyH _ _ _ _ _ 2 #[true, true, true, true, true, true, false, false] _ _
     exact HTAIL (wx3, pA, pB, s1, n1, c1, m1, s2, n2, c2, m2) ⟨hL4, HO0.o, HO1.o, HZ0.o, HZ1.o, HPQ.o, HLO0.o, HLO1.o⟩
   ·simp only [zA, zB, zC]
    refine (if_pos (by kernel_rfl)).mpr ?_
    go_wp2_with fail
    have hfx1 : Fr (fun _ => False) wx0 (wx0.alloc (.cells DZ 25)) := Fr.alloc (Fr.refl _ _) _
    have HLO0 : Jq7 (w2.heap.size ≤ wx0.heap.size) := jq7 (Fr.size hL1)
    replace HO0 := jq7 (DV.keep HO0.o hfx1)
    have HZ0 : Jq7 (Bk (wx0.alloc (.cells DZ 25)) wx0.heap.size DZ 25) := jq7 (Bk.new wx0 _)
    have HB0 : Jq7 (wx0.heap.size < (wx0.alloc (.cells DZ 25)).heap.size) := jq7 (Bk.lt HZ0.o)
    refine hK.out _ _ (hL1.then0 hfx1) (fun hL2 => ?_)
    clear hK K hL1
    clear hfx1
    generalize wx0.heap.size = pA at *
    generalize (wx0.alloc (.cells DZ 25)) = wx1 at *
    change wpAnyH _ _ _ _ _ 4 #[true, true, true, false, true, false, false, false] _ _
    refine wpAnyH_ready (rs := [3, 5]) (by kernel_rfl) (by simp) ?_
    refine AllReadyH.cons rfl (fun K hK => ?_) (AllReadyH.cons rfl (fun K hK => ?_) (AllReadyH.nil))
    ·simp only [zA, zB, zC]
     refine (if_pos (by kernel_rfl)).mpr ?_
     go_wp2_with fail
     refine (HDC.o _ (HF2.o.then0 hL2)).mono ?_
     rintro e wx2 ⟨s2, n2, c2, m2, rfl, hown1, hfx2⟩
     dsimp only
     replace HO0 := jq7 (DV.keep HO0.o hfx2)
     replace HZ0 := kq0 hfx2 HZ0
     have HO1 := jq7 hown1
     clear hown1
     replace HB0 : Jq7 (pA < wx2.heap.size) := jq7 (Bk.lt HZ0.o)
     refine hK.out _ _ (hL2.then0 hfx2) (fun hL3 => ?_)
     clear hK K hL2
     clear hfx2
     change wpAnyH _ _ _ _ _ 3 #[true, true, true, true, true, false, false, false] _ _
     refine rd1 5 rfl fun K hK => ?_
     simp only [zA, zB, zC]
     go_wp2_with fail
     have hfx3 : Fr (fun _ => False) wx2 (wx2.alloc (.cells DZ 25)) := Fr.alloc (Fr.refl _ _) _
     have HLO1 : Jq7 (w2.heap.size ≤ wx2.heap.size) := jq7 (Fr.size hL3)
     have HPQ : Jq7 (pA ≠ wx2.heap.size) := jq7 (by have h1 := Bk.lt HZ0.o;omega)
     replace HO0 := jq7 (DV.keep HO0.o hfx3)
     replace HZ0 := kq0 hfx3 HZ0
     replace HO1 := jq7 (DV.keep HO1.o hfx3)
     have HZ1 : Jq7 (Bk (wx2.alloc (.cells DZ 25)) wx2.heap.size DZ 25) := jq7 (Bk.new wx2 _)
     have HB1 : Jq7 (wx2.heap.size < (wx2.alloc (.cells DZ 25)).heap.size) := jq7 (Bk.lt HZ1.o)
     replace HB0 : Jq7 (pA < (wx2.alloc (.cells DZ 25)).heap.size) := jq7 (Bk.lt HZ0.o)
     refine hK.out _ _ (hL3.then0 hfx3) (fun hL4 => ?_)
     clear hK K hL3
     clear hfx3
     generalize wx2.heap.size = pB at *
     generalize (wx2.alloc (.cells DZ 25)) = wx3 at *
     change wpAnyH _ _ _ _ _ 2 #[true, true, true, true, true, true, false, false] _ _
     exact HTAIL (wx3, pA, pB, s1, n1, c1, m1, s2, n2, c2, m2) ⟨hL4, HO0.o, HO1.o, HZ0.o, HZ1.o, HPQ.o, HLO0.o, HLO1.o⟩
    ·simp only [zA, zB, zC]
     refine (if_pos (by kernel_rfl)).mpr ?_
     go_wp2_with fail
     have hfx2 : Fr (fun _ => False) wx1 (wx1.alloc (.cells DZ 25)) := Fr.alloc (Fr.refl _ _) _
     have HLO1 : Jq7 (w2.heap.size ≤ wx1.heap.size) := jq7 (Fr.size hL2)
     have HPQ : Jq7 (pA ≠ wx1.heap.size) := jq7 (by have h1 := Bk.lt HZ0.o;omega)
     replace HO0 := jq7 (DV.keep HO0.o hfx2)
     replace HZ0 := kq0 hfx2 HZ0
     have HZ1 : Jq7 (Bk (wx1.alloc (.cells DZ 25)) wx1.heap.size DZ 25) := jq7 (Bk.new wx1 _)
     have HB1 : Jq7 (wx1.heap.size < (wx1.alloc (.cells DZ 25)).heap.size) := jq7 (Bk.lt HZ1.o)
     replace HB0 : Jq7 (pA < (wx1.alloc (.cells DZ 25)).heap.size) := jq7 (Bk.lt HZ0.o)
     refine hK.out _ _ (hL2.then0 hfx2) (fun hL3 => ?_)
     clear hK K hL2
     clear hfx2
     generalize wx1.heap.size = pB at *
     generalize (wx1.alloc (.cells DZ 25)) = wx2 at *
     change wpAnyH _ _ _ _ _ 3 #[true, true, true, false, true, true, false, false] _ _
     refine rd1 3 rfl fun K hK => ?_
     simp only [zA, zB, zC]
     go_wp2_with fail
     refine (HDC.o _ (HF2.o.then0 hL3)).mono ?_
     rintro e wx3 ⟨s2, n2, c2, m2, rfl, hown1, hfx3⟩
     dsimp only
     replace HO0 := jq7 (DV.keep HO0.o hfx3)
     replace HZ0 := kq0 hfx3 HZ0
     replace HZ1 := kq0 hfx3 HZ1
     have HO1 := jq7 hown1
     clear hown1
     replace HB0 : Jq7 (pA < wx3.heap.size) := jq7 (Bk.lt HZ0.o)
     replace HB1 : Jq7 (pB < wx3.heap.size) := jq7 (Bk.lt HZ1.o)
     refine hK.out _ _ (hL3.then0 hfx3) (fun hL4 => ?_)
     clear hK K hL3
     clear hfx3
     change wpAnyH _ _ _ _ _ 2 #[true, true, true, true, true, true, false, false] _ _
     exact HTAIL (wx3, pA, pB, s1, n1, c1, m1, s2, n2, c2, m2) ⟨hL4, HO0.o, HO1.o, HZ0.o, HZ1.o, HPQ.o, HLO0.o, HLO1.o⟩
   ·simp only [zA, zB, zC]
    refine (if_pos (by kernel_rfl)).mpr ?_
    go_wp2_with fail
    have hfx1 : Fr (fun _ => False) wx0 (wx0.alloc (.cells DZ 25)) := Fr.alloc (Fr.refl _ _) _
    have HLO1 : Jq7 (w2.heap.size ≤ wx0.heap.size) := jq7 (Fr.size hL1)
    replace HO0 := jq7 (DV.keep HO0.o hfx1)
    have HZ1 : Jq7 (Bk (wx0.alloc (.cells DZ 25)) wx0.heap.size DZ 25) := jq7 (Bk.new wx0 _)
    have HB1 : Jq7 (wx0.heap.size < (wx0.alloc (.cells DZ 25)).heap.size) := jq7 (Bk.lt HZ1.o)
    refine hK.out _ _ (hL1.then0 hfx1) (fun hL2 => ?_)
    clear hK K hL1
    clear hfx1
    generalize wx0.heap.size = pB at *
    generalize (wx0.alloc (.cells DZ 25)) = wx1 at *
    change wpAnyH _ _ _ _ _ 4 #[true, true, true, false, false, true, false, false] _ _
    refine wpAnyH_ready (rs := [3, 4]) (by kernel_rfl) (by simp) ?_
    refine AllReadyH.cons rfl (fun K hK => ?_) (AllReadyH.cons rfl (fun K hK => ?_) (AllReadyH.nil))
    ·simp only [zA, zB, zC]
     refine (if_pos (by kernel_rfl)).mpr ?_
     go_wp2_with fail
     refine (HDC.o _ (HF2.o.then0 hL2)).mono ?_
     rintro e wx2 ⟨s2, n2, c2, m2, rfl, hown1, hfx2⟩
     dsimp only
     replace HO0 := jq7 (DV.keep HO0.o hfx2)
     replace HZ1 := kq0 hfx2 HZ1
     have HO1 := jq7 hown1
     clear hown1
     replace HB1 : Jq7 (pB < wx2.heap.size) := jq7 (Bk.lt HZ1.o)
     refine hK.out _ _ (hL2.then0 hfx2) (fun hL3 => ?_)
     clear hK K hL2
     clear hfx2
     change wpAnyH _ _ _ _ _ 3 #[true, true, true, true, false, true, false, false] _ _
     refine rd1 4 rfl fun K hK => ?_
     simp only [zA, zB, zC]
     go_wp2_with fail
     have hfx3 : Fr (fun _ => False) wx2 (wx2.alloc (.cells DZ 25)) := Fr.alloc (Fr.refl _ _) _
     have HLO0 : Jq7 (w2.heap.size ≤ wx2.heap.size) := jq7 (Fr.size hL3)
     have HPQ : Jq7 (wx2.heap.size ≠ pB) := jq7 (by have h1 := Bk.lt HZ1.o;omega)
     replace HO0 := jq7 (DV.keep HO0.o hfx3)
     replace HZ1 := kq0 hfx3 HZ1
     replace HO1 := jq7 (DV.keep HO1.o hfx3)
     have HZ0 : Jq7 (Bk (wx2.alloc (.cells DZ 25)) wx2.heap.size DZ 25) := jq7 (Bk.new wx2 _)
     have HB0 : Jq7 (wx2.heap.size < (wx2.alloc (.cells DZ 25)).heap.size) := jq7 (Bk.lt HZ0.o)
     replace HB1 : Jq7 (pB < (wx2.alloc (.cells DZ 25)).heap.size) := jq7 (Bk.lt HZ1.o)
     refine hK.out _ _ (hL3.then0 hfx3) (fun hL4 => ?_)
     clear hK K hL3
     clear hfx3
     generalize wx2.heap.size = pA at *
     generalize (wx2.alloc (.cells DZ 25)) = wx3 at *
     change wpAnyH _ _ _ _ _ 2 #[true, true, true, true, true, true, false, false] _ _
     exact HTAIL (wx3, pA, pB, s1, n1, c1, m1, s2, n2, c2, m2) ⟨hL4, HO0.o, HO1.o, HZ0.o, HZ1.o, HPQ.o, HLO0.o, HLO1.o⟩
    ·simp only [zA, zB, zC]
     refine (if_pos (by kernel_rfl)).mpr ?_
     go_wp2_with fail
     have hfx2 : Fr (fun _ => False) wx1 (wx1.alloc (.cells DZ 25)) := Fr.alloc (Fr.refl _ _) _
     have HLO0 : Jq7 (w2.heap.size ≤ wx1.heap.size) := jq7 (Fr.size hL2)
     have HPQ : Jq7 (wx1.heap.size ≠ pB) := jq7 (by have h1 := Bk.lt HZ1.o;omega)
     replace HO0 := jq7 (DV.keep HO0.o hfx2)
     replace HZ1 := kq0 hfx2 HZ1
     have HZ0 : Jq7 (Bk (wx1.alloc (.cells DZ 25)) wx1.heap.size DZ 25) := jq7 (Bk.new wx1 _)
     have HB0 : Jq7 (wx1.heap.size < (wx1.alloc (.cells DZ 25)).heap.size) := jq7 (Bk.lt HZ0.o)
     replace HB1 : Jq7 (pB < (wx1.alloc (.cells DZ 25)).heap.size) := jq7 (Bk.lt HZ1.o)
     refine hK.out _ _ (hL2.then0 hfx2) (fun hL3 => ?_)
     clear hK K hL2
     clear hfx2
     generalize wx1.heap.size = pA at *
     generalize (wx1.alloc (.cells DZ 25)) = wx2 at *
     change wpAnyH _ _ _ _ _ 3 #[true, true, true, false, true, true, false, false] _ _
     refine rd1 3 rfl fun K hK => ?_
     simp only [zA, zB, zC]
     go_wp2_with fail
     refine (HDC.o _ (HF2.o.then0 hL3)).mono ?_
     rintro e wx3 ⟨s2, n2, c2, m2, rfl, hown1, hfx3⟩
     dsimp only
     replace HO0 := jq7 (DV.keep HO0.o hfx3)
     replace HZ1 := kq0 hfx3 HZ1
     replace HZ0 := kq0 hfx3 HZ0
     have HO1 := jq7 hown1
     clear hown1
     replace HB0 : Jq7 (pA < wx3.heap.size) := jq7 (Bk.lt HZ0.o)
     replace HB1 : Jq7 (pB < wx3.heap.size) := jq7 (Bk.lt HZ1.o)
     refine hK.out _ _ (hL3.then0 hfx3) (fun hL4 => ?_)
     clear hK K hL3
     clear hfx3
     change wpAnyH _ _ _ _ _ 2 #[true, true, true, true, true, true, false, false] _ _
     exact HTAIL (wx3, pA, pB, s1, n1, c1, m1, s2, n2, c2, m2) ⟨hL4, HO0.o, HO1.o, HZ0.o, HZ1.o, HPQ.o, HLO0.o, HLO1.o⟩
  ·simp only [zA, zB, zC]
   refine (if_pos (by kernel_rfl)).mpr ?_
   go_wp2_with fail
   have hfx0 : Fr (fun _ => False) wd (wd.alloc (.cells DZ 25)) := Fr.alloc (Fr.refl _ _) _
   have HLO0 : Jq7 (w2.heap.size ≤ wd.heap.size) := jq7 (Fr.size hL0)
   have HZ0 : Jq7 (Bk (wd.alloc (.cells DZ 25)) wd.heap.size DZ 25) := jq7 (Bk.new wd _)
   have HB0 : Jq7 (wd.heap.size < (wd.alloc (.cells DZ 25)).heap.size) := jq7 (Bk.lt HZ0.o)
   refine hK.out _ _ (hL0.then0 hfx0) (fun hL1 => ?_)
   clear hK K hL0
   clear hfx0
   generalize wd.heap.size = pA at *
   generalize (wd.alloc (.cells DZ 25)) = wx0 at *
   change wpAnyH _ _ _ _ _ 5 #[true, false, true, false, true, false, false, false] _ _
   refine wpAnyH_ready (rs := [1, 5]) (by kernel_rfl) (by simp) ?_
   refine AllReadyH.cons rfl (fun K hK => ?_) (AllReadyH.cons rfl (fun K hK => ?_) (AllReadyH.nil))
   ·simp only [zA, zB, zC]
    refine (if_pos (by kernel_rfl)).mpr ?_
    go_wp2_with fail
    refine (HDC.o _ (HF2.o.then0 hL1)).mono ?_
    rintro e wx1 ⟨s1, n1, c1, m1, rfl, hown0, hfx1⟩
    dsimp only
    replace HZ0 := kq0 hfx1 HZ0
    have HO0 := jq7 hown0
    clear hown0
    replace HB0 : Jq7 (pA < wx1.heap.size) := jq7 (Bk.lt HZ0.o)
    refine hK.out _ _ (hL1.then0 hfx1) (fun hL2 => ?_)
    clear hK K hL1
    clear hfx1
    change wpAnyH _ _ _ _ _ 4 #[true, true, true, false, true, false, false, false] _ _
    refine wpAnyH_ready (rs := [3, 5]) (by kernel_rfl) (by simp) ?_
    refine AllReadyH.cons rfl (fun K hK => ?_) (AllReadyH.cons rfl (fun K hK => ?_) (AllReadyH.nil))
    ·simp only [zA, zB, zC]
     refine (if_pos (by kernel_rfl)).mpr ?_
     go_wp2_with fail
     refine (HDC.o _ (HF2.o.then0 hL2)).mono ?_
     rintro e wx2 ⟨s2, n2, c2, m2, rfl, hown1, hfx2⟩
     dsimp only
     replace HZ0 := kq0 hfx2 HZ0
     replace HO0 := jq7 (DV.keep HO0.o hfx2)
     have HO1 := jq7 hown1
     clear hown1
     replace HB0 : Jq7 (pA < wx2.heap.size) := jq7 (Bk.lt HZ0.o)
     refine hK.out _ _ (hL2.then0 hfx2) (fun hL3 => ?_)
     clear hK K hL2
     clear hfx2
     change wpAnyH _ _ _ _ _ 3 #[true, true, true, true, true, false, false, false] _ _
     refine rd1 5 rfl fun K hK => ?_
     simp only [zA, zB, zC]
     go_wp2_with fail
     have hfx3 : Fr (fun _ => False) wx2 (wx2.alloc (.cells DZ 25)) := Fr.alloc (Fr.refl _ _) _
     have HLO1 : Jq7 (w2.heap.size ≤ wx2.heap.size) := jq7 (Fr.size hL3)
     have HPQ : Jq7 (pA ≠ wx2.heap.size) := jq7 (by have h1 := Bk.lt HZ0.o;omega)
     replace HZ0 := kq0 hfx3 HZ0
     replace HO0 := jq7 (DV.keep HO0.o hfx3)
     replace HO1 := jq7 (DV.keep HO1.o hfx3)
     have HZ1 : Jq7 (Bk (wx2.alloc (.cells DZ 25)) wx2.heap.size DZ 25) := jq7 (Bk.new wx2 _)
     have HB1 : Jq7 (wx2.heap.size < (wx2.alloc (.cells DZ 25)).heap.size) := jq7 (Bk.lt HZ1.o)
     replace HB0 : Jq7 (pA < (wx2.alloc (.cells DZ 25)).heap.size) := jq7 (Bk.lt HZ0.o)
     refine hK.out _ _ (hL3.then0 hfx3) (fun hL4 => ?_)
     clear hK K hL3
     clear hfx3
     generalize wx2.heap.size = pB at *
     generalize (wx2.alloc (.cells DZ 25)) = wx3 at *
     change wpAnyH _ _ _ _ _ 2 #[true, true, true, true, true, true, false, false] _ _
     exact HTAIL (wx3, pA, pB, s1, n1, c1, m1, s2, n2, c2, m2) ⟨hL4, HO0.o, HO1.o, HZ0.o, HZ1.o, HPQ.o, HLO0.o, HLO1.o⟩
    ·simp only [zA, zB, zC]
     refine (if_pos (by kernel_rfl)).mpr ?_
     go_wp2_with fail
     have hfx2 : Fr (fun _ => False) wx1 (wx1.alloc (.cells DZ 25)) := Fr.alloc (Fr.refl _ _) _
     have HLO1 : Jq7 (w2.heap.size ≤ wx1.heap.size) := jq7 (Fr.size hL2)
     have HPQ : Jq7 (pA ≠ wx1.heap.size) := jq7 (by have h1 := Bk.lt HZ0.o;omega)
     replace HZ0 := kq0 hfx2 HZ0
     replace HO0 := jq7 (DV.keep HO0.o hfx2)
     have HZ1 : Jq7 (Bk (wx1.alloc (.cells DZ 25)) wx1.heap.size DZ 25) := jq7 (Bk.new wx1 _)
     have HB1 : Jq7 (wx1.heap.size < (wx1.alloc (.cells DZ 25)).heap.size) := jq7 (Bk.lt HZ1.o)
     replace HB0 : Jq7 (pA < (wx1.alloc (.cells DZ 25)).heap.size) := jq7 (Bk.lt HZ0.o)
     refine hK.out _ _ (hL2.then0 hfx2) (fun hL3 => ?_)
     clear hK K hL2
     clear hfx2
     generalize wx1.heap.size = pB at *
     generalize (wx1.alloc (.cells DZ 25)) = wx2 at *
     change wpAnyH _ _ _ _ _ 3 #[true, true, true, false, true, true, false, false] _ _
     refine rd1 3 rfl fun K hK => ?_
     simp only [zA, zB, zC]
     go_wp2_with fail
     refine (HDC.o _ (HF2.o.then0 hL3)).mono ?_
     rintro e wx3 ⟨s2, n2, c2, m2, rfl, hown1, hfx3⟩
     dsimp only
     replace HZ0 := kq0 hfx3 HZ0
     replace HO0 := jq7 (DV.keep HO0.o hfx3)
     replace HZ1 := kq0 hfx3 HZ1
     have HO1 := jq7 hown1
     clear hown1
     replace HB0 : Jq7 (pA < wx3.heap.size) := jq7 (Bk.lt HZ0.o)
     replace HB1 : Jq7 (pB < wx3.heap.size) := jq7 (Bk.lt HZ1.o)
     refine hK.out _ _ (hL3.then0 hfx3) (fun hL4 => ?_)
     clear hK K hL3
     clear hfx3
     change wpAnyH _ _ _ _ _ 2 #[true, true, true, true, true, true, false, false] _ _
     exact HTAIL (wx3, pA, pB, s1, n1, c1, m1, s2, n2, c2, m2) ⟨hL4, HO0.o, HO1.o, HZ0.o, HZ1.o, HPQ.o, HLO0.o, HLO1.o⟩
   ·simp only [zA, zB, zC]
    refine (if_pos (by kernel_rfl)).mpr ?_
    go_wp2_with fail
    have hfx1 : Fr (fun _ => False) wx0 (wx0.alloc (.cells DZ 25)) := Fr.alloc (Fr.refl _ _) _
    have HLO1 : Jq7 (w2.heap.size ≤ wx0.heap.size) := jq7 (Fr.size hL1)
    have HPQ : Jq7 (pA ≠ wx0.heap.size) := jq7 (by have h1 := Bk.lt HZ0.o;omega)
    replace HZ0 := kq0 hfx1 HZ0
    have HZ1 : Jq7 (Bk (wx0.alloc (.cells DZ 25)) wx0.heap.size DZ 25) := jq7 (Bk.new wx0 _)
    have HB1 : Jq7 (wx0.heap.size < (wx0.alloc (.cells DZ 25)).heap.size) := jq7 (Bk.lt HZ1.o)
    replace HB0 : Jq7 (pA < (wx0.alloc (.cells DZ 25)).heap.size) := jq7 (Bk.lt HZ0.o)
    refine hK.out _ _ (hL1.then0 hfx1) (fun hL2 => ?_)
    clear hK K hL1
    clear hfx1
    generalize wx0.heap.size = pB at *
    generalize (wx0.alloc (.cells DZ 25)) = wx1 at *
    change wpAnyH _ _ _ _ _ 4 #[true, false, true, false, true, true, false, false] _ _
    refine rd1 1 rfl fun K hK => ?_
    simp only [zA, zB, zC]
    go_wp2_with fail
    refine (HDC.o _ (HF2.o.then0 hL2)).mono ?_
    rintro e wx2 ⟨s1, n1, c1, m1, rfl, hown0, hfx2⟩
    dsimp only
    replace HZ0 := kq0 hfx2 HZ0
    replace HZ1 := kq0 hfx2 HZ1
    have HO0 := jq7 hown0
    clear hown0
    replace HB0 : Jq7 (pA < wx2.heap.size) := jq7 (Bk.lt HZ0.o)
    replace HB1 : Jq7 (pB < wx2.heap.size) := jq7 (Bk.lt HZ1.o)
    refine hK.out _ _ (hL2.then0 hfx2) (fun hL3 => ?_)
    clear hK K hL2
    clear hfx2
    change wpAnyH _ _ _ _ _ 3 #[true, true, true, false, true, true, false, false] _ _
    refine rd1 3 rfl fun K hK => ?_
    simp only [zA, zB, zC]
    go_wp2_with fail
    refine (HDC.o _ (HF2.o.then0 hL3)).mono ?_
    rintro e wx3 ⟨s2, n2, c2, m2, rfl, hown1, hfx3⟩
    dsimp only
    replace HZ0 := kq0 hfx3 HZ0
    replace HZ1 := kq0 hfx3 HZ1
    replace HO0 := jq7 (DV.keep HO0.o hfx3)
    have HO1 := jq7 hown1
    clear hown1
    replace HB0 : Jq7 (pA < wx3.heap.size) := jq7 (Bk.lt HZ0.o)
    replace HB1 : Jq7 (pB < wx3.heap.size) := jq7 (Bk.lt HZ1.o)
    refine hK.out _ _ (hL3.then0 hfx3) (fun hL4 => ?_)
    clear hK K hL3
    clear hfx3
    change wpAnyH _ _ _ _ _ 2 #[true, true, true, true, true, true, false, false] _ _
    exact HTAIL (wx3, pA, pB, s1, n1, c1, m1, s2, n2, c2, m2) ⟨hL4, HO0.o, HO1.o, HZ0.o, HZ1.o, HPQ.o, HLO0.o, HLO1.o⟩
  ·simp only [zA, zB, zC]
   refine (if_pos (by kernel_rfl)).mpr ?_
   go_wp2_with fail
   have hfx0 : Fr (fun _ => False) wd (wd.alloc (.cells DZ 25)) := Fr.alloc (Fr.refl _ _) _
   have HLO1 : Jq7 (w2.heap.size ≤ wd.heap.size) := jq7 (Fr.size hL0)
   have HZ1 : Jq7 (Bk (wd.alloc (.cells DZ 25)) wd.heap.size DZ 25) := jq7 (Bk.new wd _)
   have HB1 : Jq7 (wd.heap.size < (wd.alloc (.cells DZ 25)).heap.size) := jq7 (Bk.lt HZ1.o)
   refine hK.out _ _ (hL0.then0 hfx0) (fun hL1 => ?_)
   clear hK K hL0
   clear hfx0
   generalize wd.heap.size = pB at *
   generalize (wd.alloc (.cells DZ 25)) = wx0 at *
   change wpAnyH _ _ _ _ _ 5 #[true, false, true, false, false, true, false, false] _ _
   refine wpAnyH_ready (rs := [1, 4]) (by kernel_rfl) (by simp) ?_
   refine AllReadyH.cons rfl (fun K hK => ?_) (AllReadyH.cons rfl (fun K hK => ?_) (AllReadyH.nil))
   ·simp only [zA, zB, zC]
    refine (if_pos (by kernel_rfl)).mpr ?_
    go_wp2_with fail
    refine (HDC.o _ (HF2.o.then0 hL1)).mono ?_
    rintro e wx1 ⟨s1, n1, c1, m1, rfl, hown0, hfx1⟩
    dsimp only
    replace HZ1 := kq0 hfx1 HZ1
    have HO0 := jq7 hown0
    clear hown0
    replace HB1 : Jq7 (pB < wx1.heap.size) := jq7 (Bk.lt HZ1.o)
    refine hK.out _ _ (hL1.then0 hfx1) (fun hL2 => ?_)
    clear hK K hL1
    clear hfx1
    change wpAnyH _ _ _ _ _ 4 #[true, true, true, false, false, true, false, false] _ _
    refine wpAnyH_ready (rs := [3, 4]) (by kernel_rfl) (by simp) ?_
    refine AllReadyH.cons rfl (fun K hK => ?_) (AllReadyH.cons rfl (fun K hK => ?_) (AllReadyH.nil))
    ·simp only [zA, zB, zC]
     refine (if_pos (by kernel_rfl)).mpr ?_
     go_wp2_with fail
     refine (HDC.o _ (HF2.o.then0 hL2)).mono ?_
     rintro e wx2 ⟨s2, n2, c2, m2, rfl, hown1, hfx2⟩
     dsimp only
     replace HZ1 := kq0 hfx2 HZ1
     replace HO0 := jq7 (DV.keep HO0.o hfx2)
     have HO1 := jq7 hown1
     clear hown1
     replace HB1 : Jq7 (pB < wx2.heap.size) := jq7 (Bk.lt HZ1.o)
     refine hK.out _ _ (hL2.then0 hfx2) (fun hL3 => ?_)
     clear hK K hL2
     clear hfx2
     change wpAnyH _ _ _ _ _ 3 #[true, true, true, true, false, true, false, false] _ _
     refine rd1 4 rfl fun K hK => ?_
     simp only [zA, zB, zC]
     go_wp2_with fail
     have hfx3 : Fr (fun _ => False) wx2 (wx2.alloc (.cells DZ 25)) := Fr.alloc (Fr.refl _ _) _
     have HLO0 : Jq7 (w2.heap.size ≤ wx2.heap.size) := jq7 (Fr.size hL3)
     have HPQ : Jq7 (wx2.heap.size ≠ pB) := jq7 (by have h1 := Bk.lt HZ1.o;omega)
     replace HZ1 := kq0 hfx3 HZ1
     replace HO0 := jq7 (DV.keep HO0.o hfx3)
     replace HO1 := jq7 (DV.keep HO1.o hfx3)
     have HZ0 : Jq7 (Bk (wx2.alloc (.cells DZ 25)) wx2.heap.size DZ 25) := jq7 (Bk.new wx2 _)
     have HB0 : Jq7 (wx2.heap.size < (wx2.alloc (.cells DZ 25)).heap.size) := jq7 (Bk.lt HZ0.o)
     replace HB1 : Jq7 (pB < (wx2.alloc (.cells DZ 25)).heap.size) := jq7 (Bk.lt HZ1.o)
     refine hK.out _ _ (hL3.then0 hfx3) (fun hL4 => ?_)
     clear hK K hL3
     clear hfx3
     generalize wx2.heap.size = pA at *
     generalize (wx2.alloc (.cells DZ 25)) = wx3 at *
     change wpAnyH _ _ _ _ _ 2 #[true, true, true, true, true, true, false, false] _ _
     exact HTAIL (wx3, pA, pB, s1, n1, c1, m1, s2, n2, c2, m2) ⟨hL4, HO0.o, HO1.o, HZ0.o, HZ1.o, HPQ.o, HLO0.o, HLO1.o⟩
    ·simp only [zA, zB, zC]
     refine (if_pos (by kernel_rfl)).mpr ?_
     go_wp2_with fail
     have hfx2 : Fr (fun _ => False) wx1 (wx1.alloc (.cells DZ 25)) := Fr.alloc (Fr.refl _ _) _
     have HLO0 : Jq7 (w2.heap.size ≤ wx1.heap.size) := jq7 (Fr.size hL2)
     have HPQ : Jq7 (wx1.heap.size ≠ pB) := jq7 (by have h1 := Bk.lt HZ1.o;omega)
     replace HZ1 := kq0 hfx2 HZ1
     replace HO0 := jq7 (DV.keep HO0.o hfx2)
     have HZ0 : Jq7 (Bk (wx1.alloc (.cells DZ 25)) wx1.heap.size DZ 25) := jq7 (Bk.new wx1 _)
     have HB0 : Jq7 (wx1.heap.size < (wx1.alloc (.cells DZ 25)).heap.size) := jq7 (Bk.lt HZ0.o)
     replace HB1 : Jq7 (pB < (wx1.alloc (.cells DZ 25)).heap.size) := jq7 (Bk.lt HZ1.o)
     refine hK.out _ _ (hL2.then0 hfx2) (fun hL3 => ?_)
     clear hK K hL2
     clear hfx2
     generalize wx1.heap.size = pA at *
     generalize (wx1.alloc (.cells DZ 25)) = wx2 at *
     change wpAnyH _ _ _ _ _ 3 #[true, true, true, false, true, true, false, false] _ _
     refine rd1 3 rfl fun K hK => ?_
     simp only [zA, zB, zC]
     go_wp2_with fail
     refine (HDC.o _ (HF2.o.then0 hL3)).mono ?_
     rintro e wx3 ⟨s2, n2, c2, m2, rfl, hown1, hfx3⟩
     dsimp only
     replace HZ1 := kq0 hfx3 HZ1
     replace HO0 := jq7 (DV.keep HO0.o hfx3)
     replace HZ0 := kq0 hfx3 HZ0
     have HO1 := jq7 hown1
     clear hown1
     replace HB0 : Jq7 (pA < wx3.heap.size) := jq7 (Bk.lt HZ0.o)
     replace HB1 : Jq7 (pB < wx3.heap.size) := jq7 (Bk.lt HZ1.o)
     refine hK.out _ _ (hL3.then0 hfx3) (fun hL4 => ?_)
     clear hK K hL3
     clear hfx3
     change wpAnyH _ _ _ _ _ 2 #[true, true, true, true, true, true, false, false] _ _
     exact HTAIL (wx3, pA, pB, s1, n1, c1, m1, s2, n2, c2, m2) ⟨hL4, HO0.o, HO1.o, HZ0.o, HZ1.o, HPQ.o, HLO0.o, HLO1.o⟩
   ·simp only [zA, zB, zC]
    refine (if_pos (by kernel_rfl)).mpr ?_
    go_wp2_with fail
    have hfx1 : Fr (fun _ => False) wx0 (wx0.alloc (.cells DZ 25)) := Fr.alloc (Fr.refl _ _) _
    have HLO0 : Jq7 (w2.heap.size ≤ wx0.heap.size) := jq7 (Fr.size hL1)
    have HPQ : Jq7 (wx0.heap.size ≠ pB) := jq7 (by have h1 := Bk.lt HZ1.o;omega)
    replace HZ1 := kq0 hfx1 HZ1
    have HZ0 : Jq7 (Bk (wx0.alloc (.cells DZ 25)) wx0.heap.size DZ 25) := jq7 (Bk.new wx0 _)
    have HB0 : Jq7 (wx0.heap.size < (wx0.alloc (.cells DZ 25)).heap.size) := jq7 (Bk.lt HZ0.o)
    replace HB1 : Jq7 (pB < (wx0.alloc (.cells DZ 25)).heap.size) := jq7 (Bk.lt HZ1.o)
    refine hK.out _ _ (hL1.then0 hfx1) (fun hL2 => ?_)
    clear hK K hL1
    clear hfx1
    generalize wx0.heap.size = pA at *
    generalize (wx0.alloc (.cells DZ 25)) = wx1 at *
    change wpAnyH _ _ _ _ _ 4 #[true, false, true, false, true, true, false, false] _ _
    refine rd1 1 rfl fun K hK => ?_
    simp only [zA, zB, zC]
    go_wp2_with fail
    refine (HDC.o _ (HF2.o.then0 hL2)).mono ?_
    rintro e wx2 ⟨s1, n1, c1, m1, rfl, hown0, hfx2⟩
    dsimp only
    replace HZ1 := kq0 hfx2 HZ1
    replace HZ0 := kq0 hfx2 HZ0
    have HO0 := jq7 hown0
    clear hown0
    replace HB0 : Jq7 (pA < wx2.heap.size) := jq7 (Bk.lt HZ0.o)
    replace HB1 : Jq7 (pB < wx2.heap.size) := jq7 (Bk.lt HZ1.o)
    refine hK.out _ _ (hL2.then0 hfx2) (fun hL3 => ?_)
    clear hK K hL2
    clear hfx2
    change wpAnyH _ _ _ _ _ 3 #[true, true, true, false, true, true, false, false] _ _
    refine rd1 3 rfl fun K hK => ?_
    simp only [zA, zB, zC]
    go_wp2_with fail
    refine (HDC.o _ (HF2.o.then0 hL3)).mono ?_
    rintro e wx3 ⟨s2, n2, c2, m2, rfl, hown1, hfx3⟩
    dsimp only
    replace HZ1 := kq0 hfx3 HZ1
    replace HZ0 := kq0 hfx3 HZ0
    replace HO0 := jq7 (DV.keep HO0.o hfx3)
    have HO1 := jq7 hown1
    clear hown1
    replace HB0 : Jq7 (pA < wx3.heap.size) := jq7 (Bk.lt HZ0.o)
    replace HB1 : Jq7 (pB < wx3.heap.size) := jq7 (Bk.lt HZ1.o)
    refine hK.out _ _ (hL3.then0 hfx3) (fun hL4 => ?_)
    clear hK K hL3
    clear hfx3
    change wpAnyH _ _ _ _ _ 2 #[true, true, true, true, true, true, false, false] _ _
    exact HTAIL (wx3, pA, pB, s1, n1, c1, m1, s2, n2, c2, m2) ⟨hL4, HO0.o, HO1.o, HZ0.o, HZ1.o, HPQ.o, HLO0.o, HLO1.o⟩

end Go.Proofs.YtmkmpfnadcmcoaaGreatDoor.DitLooksLaw
