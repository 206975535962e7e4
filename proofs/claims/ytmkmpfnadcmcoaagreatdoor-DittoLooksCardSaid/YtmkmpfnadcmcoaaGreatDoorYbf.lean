/- The theorems that the claim uses, text behind text (part 32). -/
import Derived.Test.YtmkmpfnadcmcoaaGreatDoorYba
set_option maxRecDepth 100000
set_option maxHeartbeats 8000000
set_option linter.unusedVariables false
set_option linter.unusedSimpArgs false
namespace Go.Proofs.YtmkmpfnadcmcoaaGreatDoor.RmRWith
open Go Go.RowKit K EqKit ArrKit HeldKit GKit GRow DiskKit RmKit MapKit RmRight RmRRight RmTab RmPut RmAsk RmSame DiskRRead RmRead RmReads DiskAct RmSpare RmKeep RmFirst RmAliveP RmWrX RowG RmWrite
def subP (n to : Int) (p : Int × Int) : Int × Int := if p.1 = n then (p.1, to) else p
def withM (m : Rm) (n to : Int) : Rm := ⟨m.gen + 1, m.ps.map (subP n to) ++ (if m.ps.any (fun p => p.1 == n) = true then [] else [(n, to)])⟩
theorem withM_next {m : Rm} {n to s : Int} (h : tabB m s = true) : withM m n to = nextM m n to := by
 unfold withM
 rcases plc_cases m n with ⟨hp, hno⟩ | ⟨k, hk, hp, hkn, hf⟩
 ·rw [nextM_no to (by omega)]
  have h1 : m.ps.any (fun p => p.1 == n) = false := by rw [Bool.eq_false_iff];intro e;obtain ⟨x, hx, hx2⟩ := List.any_eq_true.1 e;rw [hno x hx] at hx2;cases hx2
  have h2 : m.ps.map (subP n to) = m.ps := by
   conv => rhs;rw [← List.map_id m.ps]
   exact List.map_congr_left fun x hx => by
    have := hno x hx
    unfold subP;rw [if_neg (by simpa using this)];rfl
  rw [h1, h2];rfl
 ·rw [nextM_at to hp]
  have h1 : m.ps.any (fun p => p.1 == n) = true := List.any_eq_true.2 ⟨m.ps[k], List.getElem_mem hk, by simpa using hkn⟩
  rw [h1, if_pos rfl, List.append_nil]
  congr 1
  apply List.ext_getElem (by simp)
  intro i hi hi2
  rw [List.length_map] at hi
  rw [List.getElem_map, List.getElem_set]
  by_cases e : k = i
  ·subst e
   rw [if_pos rfl];unfold subP;rw [if_pos hkn, hkn]
  ·rw [if_neg e]
   have hne : m.ps[i].1 ≠ n := by
    intro he
    rcases Nat.lt_or_gt_of_ne e with hlt | hlt
    ·have hs := (tab_parts h).2.2.2.2 i hi
     unfold stepB at hs
     simp only [Bool.and_eq_true, Bool.not_eq_true', List.getD_eq_getElem?_getD, List.getElem?_eq_getElem hi, Option.getD_some] at hs
     have h3 := hs.1.2
     rw [Bool.eq_false_iff] at h3
     apply h3
     rw [List.contains_iff_mem, List.mem_map]
     exact ⟨m.ps[k], by rw [List.mem_iff_getElem];exact ⟨k, by rw [List.length_take];omega, List.getElem_take ..⟩, by rw [hkn, he]⟩
    ·have := hf i hlt
     simp [he] at this
   unfold subP;rw [if_neg hne]
theorem take_succ_map {f : Int × Int → Int × Int} {l : List (Int × Int)} {j : Nat} (h : j < l.length) : (l.take (j + 1)).map f = (l.take j).map f ++ [f l[j]] := by
 rw [List.take_succ_eq_append_getElem h, List.map_append];rfl
theorem take_succ_any {f : Int × Int → Bool} {l : List (Int × Int)} {j : Nat} (h : j < l.length) : (l.take (j + 1)).any f = ((l.take j).any f || f l[j]) := by
 rw [List.take_succ_eq_append_getElem h, List.any_append];simp
theorem built_rg1 (x : Int) : Tryz.prog.built 28 [(0, .int .i64 x)] = some (RC x (.slice none 0 0)) := by kernel_rfl

theorem with_calls (m : Rm) (a : Option Addr) (c : Nat) (n to : Int) (w : World) (hv : RV w m a c) (hlen : m.ps.length ≤ 1000) (hg : 0 ≤ m.gen ∧ m.gen ≤ 4611686018427387904) : Calls Tryz.prog 79 #[.agg (rval m a c), .int .i64 n, .int .i64 to] w fun e w' => ∃ a' c', e = .returned (.agg (rval (withM m n to) a' c')) ∧ RowP w' w.heap.size (.slice a' (withM m n to).ps.length c') (withM m n to).ps ∧ Fr0 w w' := by
 obtain ⟨g, hgg⟩ : ∃ g, m.gen = g := ⟨_, rfl⟩
 obtain ⟨L, hL⟩ : ∃ L, m.ps.length = L := ⟨_, rfl⟩
 have hrr : rval m a c = RC g (.slice a L c) := by unfold rval;rw [hgg, hL]
 rw [hrr]
 rw [hgg] at hg
 have HMG := jq7 hgg
 have HLL := jq7 hL
 have HV := jq7 hv
 have hs1 : (w.alloc (.cells (RC g (.slice a L c)) 28)).heap.size = w.heap.size + 1 := by simp
 have hs2 : ((w.alloc (.cells (RC g (.slice a L c)) 28)).alloc (.cells RZ 28)).heap.size = w.heap.size + 1 + 1 := by simp
 have HX3 : Jq7 (Bk (((w.alloc (.cells (RC g (.slice a L c)) 28)).alloc (.cells RZ 28)).alloc (.cells RZ 28)) w.heap.size (RC g (.slice a L c)) 28) := jq7 (Bk.alloc (Bk.alloc (Bk.new w _) _) _)
 have HR3 : Jq7 (Bk (((w.alloc (.cells (RC g (.slice a L c)) 28)).alloc (.cells RZ 28)).alloc (.cells RZ 28)) (w.heap.size + 1) RZ 28) := jq7 (Bk.alloc (by have := Bk.new (w.alloc (.cells (RC g (.slice a L c)) 28)) (.cells RZ 28);rwa [hs1] at this) _)
 have HTZ : Jq7 (Bk (((w.alloc (.cells (RC g (.slice a L c)) 28)).alloc (.cells RZ 28)).alloc (.cells RZ 28)) (w.heap.size + 1 + 1) RZ 28) := jq7 (by have := Bk.new ((w.alloc (.cells (RC g (.slice a L c)) 28)).alloc (.cells RZ 28)) (.cells RZ 28);rwa [hs2] at this)
 have HF3 : Jq7 (Fr0 w (((w.alloc (.cells (RC g (.slice a L c)) 28)).alloc (.cells RZ 28)).alloc (.cells RZ 28))) := jq7 (Fr.alloc (Fr.alloc (Fr.alloc (Fr.refl _ _) _) _) _)
 have x0 : ((w.alloc (.cells (RC g (.slice a L c)) 28)).alloc (.cells RZ 28)).cell? ⟨w.heap.size, 0, none⟩ = some (.int .i64 g) := Bk.cell (show Bk ((w.alloc (.cells (RC g (.slice a L c)) 28)).alloc (.cells RZ 28)) w.heap.size (RC g (.slice a L c)) 28 from Bk.alloc (Bk.new w _) _) 0
 have HIN : Jq7 (∀ g v, (Tryz.prog.info? 28).map (·.size) = some (RC g v).size) := jq7 (fun _ _ => info_r _ _)
 have hwg : IntKind.i64.wrap (g + 1) = g + 1 := by rw [IntKind.wrap_i64];omega
 have hzr := zero_r
 have hzp := zero_pr
 obtain ⟨i1, hy0, hz0, hz1, hz2⟩ := info_parts infoPr
 have HJ : Jq7 (Tryz.prog.info? 70 = some i1 ∧ i1.zero = some (.agg PZ2) ∧ i1.size = 2 ∧ i1.bytes = 16) := jq7 ⟨hy0, hz0, hz1, hz2⟩
 rw [hL] at hlen
 clear hy0 hz0 hz1 hz2 hv hrr hgg hs1 hs2 hL
 go_enter Tryz.func79, Tryz.ntmps79
 go_wp2_with (first | ((with_reducible show wkq (.build 28 _) _);refine build_ev rfl 28 _ rfl [(0, .int .i64 (g + 1))] (by simp [Act.eval, Act.put]) (RC (g + 1) (.slice none 0 0)) (built_rg1 _) ?_) | ((with_reducible show wkq (.store 28 _ _) _);refine wpList_store_row rfl 28 _ _ rfl (w.heap.size + 1 + 1) (RC (g + 1) (.slice none 0 0)) rfl rfl 28 RZ HTZ.o (HIN.o _ _) rfl (RC_all _ _ _ _) ?_))
 have HX4 : Jq7 (Bk ((((w.alloc (.cells (RC g (.slice a L c)) 28)).alloc (.cells RZ 28)).alloc (.cells RZ 28)).setRow (w.heap.size + 1 + 1) (RC (g + 1) (.slice none 0 0))) w.heap.size (RC g (.slice a L c)) 28) := jq7 (ArrKit.Bk.rowOther HX3.o _ (by omega))
 have HR4 : Jq7 (Bk ((((w.alloc (.cells (RC g (.slice a L c)) 28)).alloc (.cells RZ 28)).alloc (.cells RZ 28)).setRow (w.heap.size + 1 + 1) (RC (g + 1) (.slice none 0 0))) (w.heap.size + 1) RZ 28) := jq7 (ArrKit.Bk.rowOther HR3.o _ (by omega))
 have HT4 : Jq7 (Bk ((((w.alloc (.cells (RC g (.slice a L c)) 28)).alloc (.cells RZ 28)).alloc (.cells RZ 28)).setRow (w.heap.size + 1 + 1) (RC (g + 1) (.slice none 0 0))) (w.heap.size + 1 + 1) (RC (g + 1) (.slice none 0 0)) 28) := jq7 (ArrKit.Bk.row HTZ.o _)
 have HF4 : Jq7 (Fr0 w ((((w.alloc (.cells (RC g (.slice a L c)) 28)).alloc (.cells RZ 28)).alloc (.cells RZ 28)).setRow (w.heap.size + 1 + 1) (RC (g + 1) (.slice none 0 0)))) := jq7 (ArrKit.Fr.row HF3.o _ _ (.inl (by omega)))
 clear HX3 HR3 HTZ HF3 x0
 generalize ((((w.alloc (.cells (RC g (.slice a L c)) 28)).alloc (.cells RZ 28)).alloc (.cells RZ 28)).setRow (w.heap.size + 1 + 1) (RC (g + 1) (.slice none 0 0))) = wb at *
 go_loopw [8, 9] (fun ff jj W => ∃ (j : Nat) (v : Value) (fb : Bool), j ≤ L ∧ jj = .int .i64 j ∧ ff = .bool fb ∧ fb = (m.ps.take j).any (fun p => p.1 == n) ∧ Bk W w.heap.size (RC g (.slice a L c)) 28 ∧ Bk W (w.heap.size + 1) RZ 28 ∧ Bk W (w.heap.size + 1 + 1) (RC (g + 1) v) 28 ∧ RowP W ((w.heap.size + 1 + 1) + 1) v ((m.ps.take j).map (subP n to)) ∧ Fr0 w W) (fun _ jj _ => L - (intOf jj).toNat)
 case atStart => exact ⟨0, (.slice none 0 0), false, Nat.zero_le _, rfl, rfl, by simp, HX4.o, HR4.o, HT4.o, by rw [List.take_zero];exact Row.nil _ _, HF4.o⟩
 case round =>
  obtain ⟨j, v, fb, hj, rfl, rfl, hfb, hx, hr, ht, hrow, hF⟩ := hrel
  obtain ⟨a9, cap9, hv, hcap, hcm, hrd, -, -⟩ := hrow.form
  have hnl : ((m.ps.take j).map (subP n to)).length = j := by rw [List.length_map, List.length_take, HLL.o];omega
  have HLT : Jq7 (((m.ps.take j).map (subP n to)).length + 1 ≤ 2000 ∧ (((m.ps.take j).map (subP n to)).length + 1) * 16 ≤ 100000) := jq7 (by rw [hnl];omega)
  generalize List.length _ = n9 at hv hcap
  subst hv
  have x1 : wr.cell? ⟨w.heap.size, 1, none⟩ = some (.slice a L c) := Bk.cell hx 1
  have t0 : wr.cell? ⟨(w.heap.size + 1 + 1), 1, none⟩ = some (.slice a9 n9 cap9) := Bk.cell ht 1
  clear HX4 HR4 HT4 HF4 hnl
  by_cases hjl : j < L
  ·have hjm : j < m.ps.length := by rw [HLL.o];exact hjl
   obtain ⟨b2, o2, e2, hat⟩ := RdP.form HV.o.rd hjm
   cases e2
   have hrg := hat _ (HV.o.rd.keep hF)
   have HRG := jq7 hrg.1
   have HJL := jq7 hjl
   have hmp := take_succ_map (f := subP n to) hjm
   have han := take_succ_any (f := fun p => p.1 == n) hjm
   rw [← hfb] at han
   have HZR := jq7 (Bk.new wr (.cells PZ2 70))
   clear hat hrg hfb
   generalize m.ps[j] = p at *
   obtain ⟨pf, pt⟩ := p
   by_cases hpn : pf = n
   ·subst hpn
    have HMP : Jq7 ((m.ps.take (j + 1)).map (subP pf to) = (m.ps.take j).map (subP pf to) ++ [(pf, to)]) := jq7 (by rw [hmp];unfold subP;simp)
    have HAN : Jq7 (true = (m.ps.take (j + 1)).any (fun p => p.1 == pf)) := jq7 (by rw [han];simp)
    clear hmp han
    have hf6 : Fr0 wr ((wr.alloc (.cells PZ2 70)).setRow wr.heap.size (PR (pf, pt)).toArray) := ArrKit.Fr.row (Fr.alloc (Fr.refl _ _) _) _ _ (.inl (Nat.le_refl _))
    have HB6 := jq7 (ArrKit.Bk.row HZR.o (PR (pf, pt)).toArray)
    have HF6 := jq7 (hF.then0 hf6)
    have HX6 := jq7 (hf6.keep hx (fun h => h))
    have HR6 := jq7 (hf6.keep hr (fun h => h))
    have HT6 := jq7 (hf6.keep ht (fun h => h))
    have HROW6 := jq7 (hrow.keep0 hf6)
    have d0 : ((wr.alloc (.cells PZ2 70)).setRow wr.heap.size (PR (pf, pt)).toArray).cell? ⟨wr.heap.size, 0, none⟩ = some (.int .i64 pf) := Bk.cell HB6.o 0
    have d1 : ((wr.alloc (.cells PZ2 70)).setRow wr.heap.size (PR (pf, pt)).toArray).cell? ⟨wr.heap.size, 1, none⟩ = some (.int .i64 pt) := Bk.cell HB6.o 1
    have d2 := Bk.free HB6.o 1
    have t1 : ((wr.alloc (.cells PZ2 70)).setRow wr.heap.size (PR (pf, pt)).toArray).cell? ⟨(w.heap.size + 1 + 1), 1, none⟩ = some (.slice a9 n9 cap9) := Bk.cell HT6.o 1
    have hne2 : (w.heap.size + 1 + 1) ≠ wr.heap.size := by have := Bk.lt ht;omega
    have hfs : Fr0 wr (((wr.alloc (.cells PZ2 70)).setRow wr.heap.size (PR (pf, pt)).toArray).setCell ⟨wr.heap.size, 1, none⟩ (.int .i64 to)) := Fr.set hf6 _ _ (.inl (Nat.le_refl _))
    have HBq : Jq7 (Bk (((wr.alloc (.cells PZ2 70)).setRow wr.heap.size (PR (pf, pt)).toArray).setCell ⟨wr.heap.size, 1, none⟩ (.int .i64 to)) wr.heap.size (PR (pf, to)).toArray 70) := jq7 (Bk.set HB6.o 1 (.int .i64 to))
    have HFq := jq7 (hF.then0 hfs)
    have HXq := jq7 (hfs.keep hx (fun h => h))
    have HRq := jq7 (hfs.keep hr (fun h => h))
    have HTq := jq7 (hfs.keep ht (fun h => h))
    have HROWq := jq7 (hrow.keep0 hfs)
    have tq1 : (((wr.alloc (.cells PZ2 70)).setRow wr.heap.size (PR (pf, pt)).toArray).setCell ⟨wr.heap.size, 1, none⟩ (.int .i64 to)).cell? ⟨(w.heap.size + 1 + 1), 1, none⟩ = some (.slice a9 n9 cap9) := Bk.cell HTq.o 1
    have q0 : (((wr.alloc (.cells PZ2 70)).setRow wr.heap.size (PR (pf, pt)).toArray).setCell ⟨wr.heap.size, 1, none⟩ (.int .i64 to)).cell? ⟨wr.heap.size, 0, none⟩ = some (.int .i64 pf) := Bk.cell HBq.o 0
    have q1 : (((wr.alloc (.cells PZ2 70)).setRow wr.heap.size (PR (pf, pt)).toArray).setCell ⟨wr.heap.size, 1, none⟩ (.int .i64 to)).cell? ⟨wr.heap.size, 1, none⟩ = some (.int .i64 to) := Bk.cell HBq.o 1
    clear hfs hne2
    clear hx hr ht hF hrow hf6 hrd
    go_wp2_with (first | ((with_reducible show wkq (.load 70 _) _);refine lr 70 wr.heap.size (PR (pf, to)).toArray HBq.o (info_pr2 _) ?_) | ((with_reducible show wkq (.load 70 _) _);refine wpList_load_mid rfl 70 _ rfl b2 (o2 + j * 2) rfl (PR (pf, pt)) _ HRG.o Tryz.underlying70 rfl (info_pr _) ?_) | ((with_reducible show wkq (.store 70 _ _) _);refine wpList_store_row rfl 70 _ _ rfl wr.heap.size (PR (pf, pt)).toArray rfl rfl 70 PZ2 HZR.o (info_pr2 _) rfl (PR_all _) ?_) | ((with_reducible show wkq (.buildSlice 26 1 _) _);refine wpList_plain rfl fun K hK => ?_;refine GApp.wp_buildSlice_one 26 _ rfl 70 i1 _ 2 Tryz.underlying26 HJ.o.1 HJ.o.2.1 HJ.o.2.2.1 (by decide) (by decide) (PR (pf, to)).toArray rfl rfl ?_;refine hK _ _ ?_) | (at_builtin;refine wpList_plain rfl fun K hK => ?_;obtain ⟨v8, w8, hr8, ho8, hf8, hb8⟩ := Row.append1 (P := Tryz.prog) (f := PR) (k := 2) (e := 70) ((((wr.alloc (.cells PZ2 70)).setRow wr.heap.size (PR (pf, pt)).toArray).setCell ⟨wr.heap.size, 1, none⟩ (.int .i64 to)).alloc (.cells (PR (pf, to)).toArray 70)) 26 26 i1 _ 16 ((w.heap.size + 1 + 1) + 1) Tryz.underlying26 HJ.o.1 HJ.o.2.1 HJ.o.2.2.1 HJ.o.2.2.2 rfl (by decide) (.slice a9 n9 cap9) _ (HROWq.o.keep0 (Fr.alloc (Fr.refl _ _) _)) (Nat.le_trans (Bk.lt HTq.o) (Fr.size (S := fun _ => False) (Fr.alloc (Fr.refl _ _) _))) (fun x _ => rfl) (((wr.alloc (.cells PZ2 70)).setRow wr.heap.size (PR (pf, pt)).toArray).setCell ⟨wr.heap.size, 1, none⟩ (.int .i64 to)).heap.size 1 (pf, to) rfl (PR_one _) (Bk.new (((wr.alloc (.cells PZ2 70)).setRow wr.heap.size (PR (pf, pt)).toArray).setCell ⟨wr.heap.size, 1, none⟩ (.int .i64 to)) _) (by have := HLT.o;omega) (by have := HLT.o;omega);obtain ⟨a8, cap8, hv8, -⟩ := ho8.form;generalize List.length _ = n8 at hv8;subst hv8;refine GApp.wp_append_run _ _ 26 (by rfl) _ _ _ (by rfl) (by rfl) hr8 ?_;refine hK _ _ ?_;have HB8 : Jq7 (∀ i, (Value.slice a9 n9 cap9).ownBlock = some i → (w.heap.size + 1 + 1) < i) := jq7 (fun i e => (HROWq.o.blk i e).1);have HX8 := jq7 (hf8.keep (Bk.alloc HXq.o _) (fun e => by have := HB8.o _ e;omega));have HR8 := jq7 (hf8.keep (Bk.alloc HRq.o _) (fun e => by have := HB8.o _ e;omega));have HT8 := jq7 (hf8.keep (Bk.alloc HTq.o _) (fun e => by have := HB8.o _ e;omega));have HF8 : Jq7 (Fr0 w w8) := jq7 ((Fr.alloc HFq.o _).then hf8 (fun i hi e => by have := HB8.o _ e;omega));have HW8 := jq7 ho8;obtain ⟨vc, c81⟩ : ∃ v, w8.cell? ⟨(w.heap.size + 1 + 1), 1, none⟩ = some v := ⟨_, Bk.cell HT8.o 1⟩;have f81 := Bk.free HT8.o 1;clear hr8 ho8 hf8 hb8))
    go_roundw
    case rel => exact ⟨j + 1, _, _, by have := HJL.o;omega, by go_num, rfl, HAN.o, Bk.setOther HX8.o _ _ (by show w.heap.size ≠ (w.heap.size + 1 + 1);omega), Bk.setOther HR8.o _ _ (by show (w.heap.size + 1) ≠ (w.heap.size + 1 + 1);omega), Bk.set HT8.o 1 _, by rw [HMP.o];exact HW8.o.keep (S := fun i => i = (w.heap.size + 1 + 1)) (Fr.set1 _ _ _ _) (fun g e => by have := HW8.o.blk g e;omega), Fr.set HF8.o _ _ (.inl (by show w.heap.size ≤ (w.heap.size + 1 + 1);omega))⟩
    case measure => have := HJL.o;simp [intOf];omega
   ·have HMP : Jq7 ((m.ps.take (j + 1)).map (subP n to) = (m.ps.take j).map (subP n to) ++ [(pf, pt)]) := jq7 (by rw [hmp];congr 2;unfold subP;rw [if_neg hpn])
    have HAN : Jq7 (fb = (m.ps.take (j + 1)).any (fun p => p.1 == n)) := jq7 (by rw [han];simp [hpn])
    have hpb : (pf == n) = false := by simpa using hpn
    clear hmp han hpn
    have hf6 : Fr0 wr ((wr.alloc (.cells PZ2 70)).setRow wr.heap.size (PR (pf, pt)).toArray) := ArrKit.Fr.row (Fr.alloc (Fr.refl _ _) _) _ _ (.inl (Nat.le_refl _))
    have HB6 := jq7 (ArrKit.Bk.row HZR.o (PR (pf, pt)).toArray)
    have HF6 := jq7 (hF.then0 hf6)
    have HX6 := jq7 (hf6.keep hx (fun h => h))
    have HR6 := jq7 (hf6.keep hr (fun h => h))
    have HT6 := jq7 (hf6.keep ht (fun h => h))
    have HROW6 := jq7 (hrow.keep0 hf6)
    have d0 : ((wr.alloc (.cells PZ2 70)).setRow wr.heap.size (PR (pf, pt)).toArray).cell? ⟨wr.heap.size, 0, none⟩ = some (.int .i64 pf) := Bk.cell HB6.o 0
    have d1 : ((wr.alloc (.cells PZ2 70)).setRow wr.heap.size (PR (pf, pt)).toArray).cell? ⟨wr.heap.size, 1, none⟩ = some (.int .i64 pt) := Bk.cell HB6.o 1
    have d2 := Bk.free HB6.o 1
    have t1 : ((wr.alloc (.cells PZ2 70)).setRow wr.heap.size (PR (pf, pt)).toArray).cell? ⟨(w.heap.size + 1 + 1), 1, none⟩ = some (.slice a9 n9 cap9) := Bk.cell HT6.o 1
    clear hx hr ht hF hrow hf6 hrd
    go_wp2_with (first | ((with_reducible show wkq (.load 70 _) _);refine lr 70 wr.heap.size (PR (pf, pt)).toArray HB6.o (info_pr2 _) ?_) | ((with_reducible show wkq (.load 70 _) _);refine wpList_load_mid rfl 70 _ rfl b2 (o2 + j * 2) rfl (PR (pf, pt)) _ HRG.o Tryz.underlying70 rfl (info_pr _) ?_) | ((with_reducible show wkq (.store 70 _ _) _);refine wpList_store_row rfl 70 _ _ rfl wr.heap.size (PR (pf, pt)).toArray rfl rfl 70 PZ2 HZR.o (info_pr2 _) rfl (PR_all _) ?_) | ((with_reducible show wkq (.buildSlice 26 1 _) _);refine wpList_plain rfl fun K hK => ?_;refine GApp.wp_buildSlice_one 26 _ rfl 70 i1 _ 2 Tryz.underlying26 HJ.o.1 HJ.o.2.1 HJ.o.2.2.1 (by decide) (by decide) (PR (pf, pt)).toArray rfl rfl ?_;refine hK _ _ ?_) | (at_builtin;refine wpList_plain rfl fun K hK => ?_;obtain ⟨v8, w8, hr8, ho8, hf8, hb8⟩ := Row.append1 (P := Tryz.prog) (f := PR) (k := 2) (e := 70) (((wr.alloc (.cells PZ2 70)).setRow wr.heap.size (PR (pf, pt)).toArray).alloc (.cells (PR (pf, pt)).toArray 70)) 26 26 i1 _ 16 ((w.heap.size + 1 + 1) + 1) Tryz.underlying26 HJ.o.1 HJ.o.2.1 HJ.o.2.2.1 HJ.o.2.2.2 rfl (by decide) (.slice a9 n9 cap9) _ (HROW6.o.keep0 (Fr.alloc (Fr.refl _ _) _)) (Nat.le_trans (Bk.lt HT6.o) (Fr.size (S := fun _ => False) (Fr.alloc (Fr.refl _ _) _))) (fun x _ => rfl) ((wr.alloc (.cells PZ2 70)).setRow wr.heap.size (PR (pf, pt)).toArray).heap.size 1 (pf, pt) rfl (PR_one _) (Bk.new ((wr.alloc (.cells PZ2 70)).setRow wr.heap.size (PR (pf, pt)).toArray) _) (by have := HLT.o;omega) (by have := HLT.o;omega);obtain ⟨a8, cap8, hv8, -⟩ := ho8.form;generalize List.length _ = n8 at hv8;subst hv8;refine GApp.wp_append_run _ _ 26 (by rfl) _ _ _ (by rfl) (by rfl) hr8 ?_;refine hK _ _ ?_;have HB8 : Jq7 (∀ i, (Value.slice a9 n9 cap9).ownBlock = some i → (w.heap.size + 1 + 1) < i) := jq7 (fun i e => (HROW6.o.blk i e).1);have HX8 := jq7 (hf8.keep (Bk.alloc HX6.o _) (fun e => by have := HB8.o _ e;omega));have HR8 := jq7 (hf8.keep (Bk.alloc HR6.o _) (fun e => by have := HB8.o _ e;omega));have HT8 := jq7 (hf8.keep (Bk.alloc HT6.o _) (fun e => by have := HB8.o _ e;omega));have HF8 : Jq7 (Fr0 w w8) := jq7 ((Fr.alloc HF6.o _).then hf8 (fun i hi e => by have := HB8.o _ e;omega));have HW8 := jq7 ho8;obtain ⟨vc, c81⟩ : ∃ v, w8.cell? ⟨(w.heap.size + 1 + 1), 1, none⟩ = some v := ⟨_, Bk.cell HT8.o 1⟩;have f81 := Bk.free HT8.o 1;clear hr8 ho8 hf8 hb8))
    go_roundw
    case rel => exact ⟨j + 1, _, _, by have := HJL.o;omega, by go_num, rfl, HAN.o, Bk.setOther HX8.o _ _ (by show w.heap.size ≠ (w.heap.size + 1 + 1);omega), Bk.setOther HR8.o _ _ (by show (w.heap.size + 1) ≠ (w.heap.size + 1 + 1);omega), Bk.set HT8.o 1 _, by rw [HMP.o];exact HW8.o.keep (S := fun i => i = (w.heap.size + 1 + 1)) (Fr.set1 _ _ _ _) (fun g e => by have := HW8.o.blk g e;omega), Fr.set HF8.o _ _ (.inl (by show w.heap.size ≤ (w.heap.size + 1 + 1);omega))⟩
    case measure => have := HJL.o;simp [intOf];omega
  ·have hje : j = L := by omega
   subst hje
   have hta : m.ps.take j = m.ps := List.take_of_length_le (by rw [HLL.o];omega)
   rw [hta] at hfb hrow
   cases fb with
   | true =>
    have hps : (withM m n to).ps = m.ps.map (subP n to) := by unfold withM;rw [← hfb, if_pos rfl, List.append_nil]
    clear hfb hta
    have HT := jq7 ht
    have HR := jq7 hr
    have HF := jq7 hF
    have HW : Jq7 (RowP wr ((w.heap.size + 1 + 1) + 1) (.slice a9 n9 cap9) (withM m n to).ps) := jq7 (by rw [hps];exact hrow)
    clear ht hr hF hrow hx hrd hps
    go_wp2_with (first | ((with_reducible show wkq (.load 28 _) _);refine lr 28 (w.heap.size + 1 + 1) _ HT.o (HIN.o _ _) ?_) | ((with_reducible show wkq (.store 28 _ _) _);refine wpList_store_row rfl 28 _ _ rfl (w.heap.size + 1) (RC (g + 1) (.slice a9 n9 cap9)) rfl rfl 28 RZ HR.o (HIN.o _ _) rfl (RC_all _ _ _ _) ?_))
    refine fin_c (w.heap.size + 1) 28 (RC (g + 1) (.slice a9 n9 cap9)) (by rfl) (by rfl) (by rfl) Tryz.underlying28 (by rfl) (HIN.o _ _) (ArrKit.Bk.row HR.o _) ?_
    have hrw := Row.rv (g := 0) (m := withM m n to) HW.o
    exact ⟨a9, cap9, by show _ = Ending.returned (.agg (RC (m.gen + 1) (.slice a9 (withM m n to).ps.length cap9)));rw [HMG.o, ← hrw.1], by rw [← hrw.1];exact Row.less (HW.o.keep (S := fun i => i = (w.heap.size + 1)) (Fr.row1 _ _ _) (fun q e => by have := (HW.o.blk q e).1;omega)) (by omega), ArrKit.Fr.row HF.o _ _ (.inl (by omega))⟩
   | false =>
    have hps : (withM m n to).ps = m.ps.map (subP n to) ++ [(n, to)] := by unfold withM;rw [← hfb];simp
    have HLT : Jq7 ((m.ps.map (subP n to)).length + 1 ≤ 2000 ∧ ((m.ps.map (subP n to)).length + 1) * 16 ≤ 100000) := jq7 (by rw [List.length_map, HLL.o];omega)
    clear hfb hta
    have HT := jq7 ht
    have HR := jq7 hr
    have HF := jq7 hF
    have HX := jq7 hx
    have HROW := jq7 hrow
    have HPS := jq7 hps
    clear ht hr hF hrow hx hrd hps
    go_wp2_with (first | ((with_reducible show wkq (.load 28 _) _);refine lr 28 (w.heap.size + 1 + 1) _ HT9.o (HIN.o _ _) ?_) | ((with_reducible show wkq (.build 70 _) _);refine build_ev rfl 70 _ rfl [(0, .int .i64 n), (1, .int .i64 to)] (by simp [Act.eval, Act.put]) (PR (n, to)).toArray (built_pr _ _) ?_) | ((with_reducible show wkq (.buildSlice 26 1 _) _);refine wpList_plain rfl fun K hK => ?_;refine GApp.wp_buildSlice_one 26 _ rfl 70 i1 _ 2 Tryz.underlying26 HJ.o.1 HJ.o.2.1 HJ.o.2.2.1 (by decide) (by decide) (PR (n, to)).toArray rfl rfl ?_;refine hK _ _ ?_) | (at_builtin;refine wpList_plain rfl fun K hK => ?_;obtain ⟨v8, w8, hr8, ho8, hf8, hb8⟩ := Row.append1 (P := Tryz.prog) (f := PR) (k := 2) (e := 70) (wr.alloc (.cells (PR (n, to)).toArray 70)) 26 26 i1 _ 16 ((w.heap.size + 1 + 1) + 1) Tryz.underlying26 HJ.o.1 HJ.o.2.1 HJ.o.2.2.1 HJ.o.2.2.2 rfl (by decide) (.slice a9 n9 cap9) _ (HROW.o.keep0 (Fr.alloc (Fr.refl _ _) _)) (Nat.le_trans (Bk.lt HT.o) (Fr.size (S := fun _ => False) (Fr.alloc (Fr.refl _ _) _))) (fun x _ => rfl) wr.heap.size 1 (n, to) rfl (PR_one _) (Bk.new wr _) (by have := HLT.o;omega) (by have := HLT.o;omega);obtain ⟨a8, cap8, hv8, -⟩ := ho8.form;generalize List.length _ = n8 at hv8;subst hv8;refine GApp.wp_append_run _ _ 26 (by rfl) _ _ _ (by rfl) (by rfl) hr8 ?_;refine hK _ _ ?_;have HB8 : Jq7 (∀ i, (Value.slice a9 n9 cap9).ownBlock = some i → (w.heap.size + 1 + 1) < i) := jq7 (fun i e => (HROW.o.blk i e).1);have HX8 := jq7 (hf8.keep (Bk.alloc HX.o _) (fun e => by have := HB8.o _ e;omega));have HR8 := jq7 (hf8.keep (Bk.alloc HR.o _) (fun e => by have := HB8.o _ e;omega));have HT8 := jq7 (hf8.keep (Bk.alloc HT.o _) (fun e => by have := HB8.o _ e;omega));have HF8 : Jq7 (Fr0 w w8) := jq7 ((Fr.alloc HF.o _).then hf8 (fun i hi e => by have := HB8.o _ e;omega));have HW8 := jq7 ho8;obtain ⟨vc, c81⟩ : ∃ v, w8.cell? ⟨(w.heap.size + 1 + 1), 1, none⟩ = some v := ⟨_, Bk.cell HT8.o 1⟩;have f81 := Bk.free HT8.o 1;have HT9 : Jq7 (Bk (w8.setCell ⟨(w.heap.size + 1 + 1), 1, none⟩ (.slice a8 n8 cap8)) (w.heap.size + 1 + 1) (RC (g + 1) (.slice a8 n8 cap8)) 28) := jq7 (Bk.set HT8.o 1 (.slice a8 n8 cap8));have HR9 : Jq7 (Bk (w8.setCell ⟨(w.heap.size + 1 + 1), 1, none⟩ (.slice a8 n8 cap8)) (w.heap.size + 1) RZ 28) := jq7 (Bk.setOther HR8.o _ _ (by show (w.heap.size + 1) ≠ (w.heap.size + 1 + 1);omega));have HF9 : Jq7 (Fr0 w (w8.setCell ⟨(w.heap.size + 1 + 1), 1, none⟩ (.slice a8 n8 cap8))) := jq7 (Fr.set HF8.o _ _ (.inl (by show w.heap.size ≤ (w.heap.size + 1 + 1);omega)));have HW9 : Jq7 (RowP (w8.setCell ⟨(w.heap.size + 1 + 1), 1, none⟩ (.slice a8 n8 cap8)) ((w.heap.size + 1 + 1) + 1) (.slice a8 n8 cap8) (withM m n to).ps) := jq7 (by rw [HPS.o];exact HW8.o.keep (S := fun i => i = (w.heap.size + 1 + 1)) (Fr.set1 _ _ _ _) (fun g e => by have := HW8.o.blk g e;omega));clear hr8 ho8 hf8 hb8) | ((with_reducible show wkq (.store 28 _ _) _);refine wpList_store_row rfl 28 _ _ rfl (w.heap.size + 1) (RC (g + 1) (.slice a8 n8 cap8)) rfl rfl 28 RZ HR9.o (HIN.o _ _) rfl (RC_all _ _ _ _) ?_))
    refine fin_c (w.heap.size + 1) 28 (RC (g + 1) (.slice a8 n8 cap8)) (by rfl) (by rfl) (by rfl) Tryz.underlying28 (by rfl) (HIN.o _ _) (ArrKit.Bk.row HR9.o _) ?_
    have hrw := Row.rv (g := 0) (m := withM m n to) HW9.o
    exact ⟨a8, cap8, by show _ = Ending.returned (.agg (RC (m.gen + 1) (.slice a8 (withM m n to).ps.length cap8)));rw [HMG.o, ← hrw.1], by rw [← hrw.1];exact Row.less (HW9.o.keep (S := fun i => i = (w.heap.size + 1)) (Fr.row1 _ _ _) (fun q e => by have := (HW9.o.blk q e).1;omega)) (by omega), ArrKit.Fr.row HF9.o _ _ (.inl (by omega))⟩

end Go.Proofs.YtmkmpfnadcmcoaaGreatDoor.RmRWith
