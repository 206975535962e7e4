/- The theorems that the claim uses, text behind text (part 7). -/
import Derived.Test.YtmkmpfnadcmcoaaGreatDoorYaa
import Derived.Test.YtmkmpfnadcmcoaaGreatDoorYaf
import Derived.Test.YtmkmpfnadcmcoaaGreatDoorProg
import Derived.Outline
import Derived.Laws.ShiftsVar
import Derived.LoopTactic
import Derived.Laws.BitsLemmas
set_option maxRecDepth 100000
set_option maxHeartbeats 8000000
set_option linter.unusedVariables false
set_option linter.unusedSimpArgs false
namespace Go.Proofs.YtmkmpfnadcmcoaaGreatDoor.DiskRRead
open Go Go.RowKit K EqKit ArrKit HeldKit GKit GRow DiskKit DiskAsk DiskForm DiskAct DiskNew DiskCopy
def ZB : Array Value := (Z128.map B).toArray
theorem ZB_one : ZB.all (·.oneCell') = true := by simp [ZB, Z128, B, Value.oneCell']
theorem info_zb : (Tryz.prog.info? 36).map (·.size) = some ZB.size := by rw [info_b];simp [ZB, Z128]
theorem built_zb : Tryz.prog.built 36 [] = some ZB := by kernel_rfl
theorem last_app (l : List Wri) (x : Wri) (a : Int) : lastAt (l ++ [x]) a = if x.pos = a then some x.data else lastAt l a := by simp [lastAt, List.foldl_append]
theorem last_take {l : List Wri} {m : Nat} (h : m < l.length) (a : Int) : lastAt (l.take (m + 1)) a = if l[m].pos = a then some l[m].data else lastAt (l.take m) a := by
 rw [List.take_succ_eq_append_getElem h, last_app]
def Back (l : List Wri) (a : Int) (i : Value) : Prop := (∃ m : Nat, m < l.length ∧ i = .int .i64 m ∧ lastAt l a = lastAt (l.take (m + 1)) a) ∨ (i = .int .i64 (-1) ∧ lastAt l a = none)
theorem Back.start (l : List Wri) (a : Int) : Back l a (.int .i64 ((l.length : Int) - 1)) := by
 cases h : l.length with
 | zero =>
  have : l = [] := List.eq_nil_of_length_eq_zero h
  subst this
  exact .inr ⟨rfl, rfl⟩
 | succ n => exact .inl ⟨n, by omega, by rw [show ((n + 1 : Nat) : Int) - 1 = (n : Int) by omega], by rw [← h, List.take_length]⟩
theorem Back.next {l : List Wri} {a : Int} {m : Nat} (hm : m < l.length) (h : lastAt l a = lastAt (l.take (m + 1)) a) (hne : l[m].pos ≠ a) : Back l a (.int .i64 ((m : Int) - 1)) := by
 rw [last_take hm, if_neg hne] at h
 cases m with
 | zero => exact .inr ⟨rfl, by rw [h];rfl⟩
 | succ n => exact .inl ⟨n, by omega, by rw [show ((n + 1 : Nat) : Int) - 1 = (n : Int) by omega], h⟩
def readV (x : List UInt8 × Int) : Value := .tuple #[.agg (x.1.map B).toArray, .int .i64 x.2]
theorem readX_wrong {d : Dk} {a : Int} (h : rightB d a = false) : readX d a = (Z128, 1) := by rw [readX, if_pos h]
theorem readX_down {d : Dk} {a : Int} (h : rightB d a = true) (hd : d.down = true) : readX d a = (Z128, 3) := by rw [readX, if_neg (by simp [h]), if_pos hd]
theorem readX_some {d : Dk} {a : Int} {b : List UInt8} (h : rightB d a = true) (hd : d.down = false) (hl : lastAt d.C a = some b) : readX d a = (b, 0) := by rw [readX, if_neg (by simp [h]), if_neg (by simp [hd]), hl]
theorem readX_nr {d : Dk} {a : Int} (h : rightB d a = true) (hd : d.down = false) (hl : lastAt d.C a = none) (hn : (secAt d a).nr = true) : readX d a = (Z128, 2) := by rw [readX, if_neg (by simp [h]), if_neg (by simp [hd]), hl];simp [hn]
theorem readX_data {d : Dk} {a : Int} (h : rightB d a = true) (hd : d.down = false) (hl : lastAt d.C a = none) (hn : (secAt d a).nr = false) : readX d a = ((secAt d a).data, 0) := by rw [readX, if_neg (by simp [h]), if_neg (by simp [hd]), hl];simp [hn]

theorem rread_unf (p : Nat) (a : Int) (d : Dk) (sa : Option Addr) (sc : Nat) (ca : Option Addr) (cc : Nat) (w : World) (hok : d.ok) (hv : DAt w p d sa sc ca cc) (hr : formedB d = false) : Calls Tryz.prog 73 #[.pointer (some ⟨p, 0, none⟩), .int .i64 a] w fun e w' => e = .returned (readV (readX d a)) ∧ Fr0 w w' := by
 have hzb : ∀ W, (zeroValue 36).run Tryz.prog W = .ok (.agg ZB) W := by intro W;kernel_rfl
 have HF0 : Jq7 (Fr0 w (w.alloc (.cells ZB 36))) := jq7 (Fr.alloc (Fr.refl _ _) _)
 have HV0 := jq7 (hv.keep HF0.o)
 have HT0 : Jq7 (Bk (w.alloc (.cells ZB 36)) w.heap.size ZB 36) := jq7 (Bk.new w _)
 have HRI := jq7 (rformed_calls d sa sc ca cc (w.alloc (.cells ZB 36)) (hv.v.keep HF0.o))
 have HTH : Jq7 (∀ W, Calls Tryz.prog 69 #[.agg (dval d sa sc ca cc), .int .i64 a] W fun e w' => e = .returned (.bool (thereB d.S.length a)) ∧ Fr0 W w') := jq7 (fun W => there_calls _ _ _ _ _ _ _ W)
 have HRX := jq7 (readX_wrong (a := a) (show rightB d a = false by rw [rightB, hr, Bool.and_false]))
 rw [hr] at HRI
 clear hv hok hr
 obtain ⟨SS, CC, ff, dd⟩ := d
 try dsimp only at *
 go_enter Tryz.func73, Tryz.ntmps73
 go_wp2_with (first | ((with_reducible show wkq (.load 25 _) _);refine lr 25 p _ HV0.o.blk info_d ?_) | (go_at_call 45;(with_reducible refine (HRI.o).mono ?_);rintro e w2 ⟨rfl, hf2⟩;have HF2 := fq0 HF0 hf2;have HV2 := jq7 (HV0.o.keep hf2);have HT2 := kq0 hf2 HT0;clear hf2) | ((with_reducible show wkq (.build 36 _) _);refine build_ev rfl 36 _ rfl [] (by simp) ZB built_zb ?_) | ((with_reducible show wkq (.store 36 _ _) _);refine wpList_store_row rfl 36 _ _ rfl w.heap.size ZB rfl rfl 36 ZB HT2.o info_zb rfl ZB_one ?_))
 refine fin_ct w.heap.size 36 ZB (.int .i64 1) (by rfl) (by rfl) (by rfl) (by rfl) Tryz.underlying36 (by rfl) info_zb (ArrKit.Bk.row HT2.o ZB) ?_
 rw [HRX.o]
 exact ⟨rfl, ArrKit.Fr.row HF2.o _ _ (.inl (Nat.le_refl _))⟩

theorem rread_out (p : Nat) (a : Int) (d : Dk) (sa : Option Addr) (sc : Nat) (ca : Option Addr) (cc : Nat) (w : World) (hok : d.ok) (hv : DAt w p d sa sc ca cc) (hr : formedB d = true) (ht : thereB d.S.length a = false) : Calls Tryz.prog 73 #[.pointer (some ⟨p, 0, none⟩), .int .i64 a] w fun e w' => e = .returned (readV (readX d a)) ∧ Fr0 w w' := by
 have hzb : ∀ W, (zeroValue 36).run Tryz.prog W = .ok (.agg ZB) W := by intro W;kernel_rfl
 have HF0 : Jq7 (Fr0 w (w.alloc (.cells ZB 36))) := jq7 (Fr.alloc (Fr.refl _ _) _)
 have HV0 := jq7 (hv.keep HF0.o)
 have HT0 : Jq7 (Bk (w.alloc (.cells ZB 36)) w.heap.size ZB 36) := jq7 (Bk.new w _)
 have HRI := jq7 (rformed_calls d sa sc ca cc (w.alloc (.cells ZB 36)) (hv.v.keep HF0.o))
 have HTH : Jq7 (∀ W, Calls Tryz.prog 69 #[.agg (dval d sa sc ca cc), .int .i64 a] W fun e w' => e = .returned (.bool (thereB d.S.length a)) ∧ Fr0 W w') := jq7 (fun W => there_calls _ _ _ _ _ _ _ W)
 have HRX := jq7 (readX_wrong (show rightB d a = false by rw [rightB, ht, Bool.false_and]))
 rw [hr] at HRI
 rw [ht] at HTH
 clear hv hok hr ht
 obtain ⟨SS, CC, ff, dd⟩ := d
 try dsimp only at *
 go_enter Tryz.func73, Tryz.ntmps73
 go_wp2_with (first | ((with_reducible show wkq (.load 25 _) _);refine lr 25 p _ HV0.o.blk info_d ?_) | (go_at_call 45;(with_reducible refine (HRI.o).mono ?_);rintro e w2 ⟨rfl, hf2⟩;have HF2 := fq0 HF0 hf2;have HV2 := jq7 (HV0.o.keep hf2);have HT2 := kq0 hf2 HT0;clear hf2) | ((with_reducible show wkq (.load 25 _) _);refine lr 25 p _ HV2.o.blk info_d ?_) | (go_at_call 69;(with_reducible refine (HTH.o _).mono ?_);rintro e w3 ⟨rfl, hf3⟩;have HF3 := fq0 HF2 hf3;have HV3 := jq7 (HV2.o.keep hf3);have HT3 := kq0 hf3 HT2;have q3 : w3.cell? ⟨p, 3, none⟩ = some (.bool dd) := Bk.cell HV3.o.blk 3;have q1 : w3.cell? ⟨p, 1, none⟩ = some (.slice ca CC.length cc) := Bk.cell HV3.o.blk 1;have q0 : w3.cell? ⟨p, 0, none⟩ = some (.slice sa SS.length sc) := Bk.cell HV3.o.blk 0;clear hf3) | ((with_reducible show wkq (.build 36 _) _);refine build_ev rfl 36 _ rfl [] (by simp) ZB built_zb ?_) | ((with_reducible show wkq (.store 36 _ _) _);refine wpList_store_row rfl 36 _ _ rfl w.heap.size ZB rfl rfl 36 ZB HT3.o info_zb rfl ZB_one ?_))
 refine fin_ct w.heap.size 36 ZB (.int .i64 1) (by rfl) (by rfl) (by rfl) (by rfl) Tryz.underlying36 (by rfl) info_zb (ArrKit.Bk.row HT3.o ZB) ?_
 rw [HRX.o]
 exact ⟨rfl, ArrKit.Fr.row HF3.o _ _ (.inl (Nat.le_refl _))⟩

theorem rread_down (p : Nat) (a : Int) (d : Dk) (sa : Option Addr) (sc : Nat) (ca : Option Addr) (cc : Nat) (w : World) (hok : d.ok) (hv : DAt w p d sa sc ca cc) (hr : formedB d = true) (ht : thereB d.S.length a = true) (hd : d.down = true) : Calls Tryz.prog 73 #[.pointer (some ⟨p, 0, none⟩), .int .i64 a] w fun e w' => e = .returned (readV (readX d a)) ∧ Fr0 w w' := by
 have hzb : ∀ W, (zeroValue 36).run Tryz.prog W = .ok (.agg ZB) W := by intro W;kernel_rfl
 have HF0 : Jq7 (Fr0 w (w.alloc (.cells ZB 36))) := jq7 (Fr.alloc (Fr.refl _ _) _)
 have HV0 := jq7 (hv.keep HF0.o)
 have HT0 : Jq7 (Bk (w.alloc (.cells ZB 36)) w.heap.size ZB 36) := jq7 (Bk.new w _)
 have HRI := jq7 (rformed_calls d sa sc ca cc (w.alloc (.cells ZB 36)) (hv.v.keep HF0.o))
 have HTH : Jq7 (∀ W, Calls Tryz.prog 69 #[.agg (dval d sa sc ca cc), .int .i64 a] W fun e w' => e = .returned (.bool (thereB d.S.length a)) ∧ Fr0 W w') := jq7 (fun W => there_calls _ _ _ _ _ _ _ W)
 have HRT := jq7 (show rightB d a = true by rw [rightB, ht, hr];rfl)
 rw [hr] at HRI
 rw [ht] at HTH
 have HRX := jq7 (readX_down HRT.o hd)
 have HHD := jq7 hd
 clear hv hok hr ht hd
 obtain ⟨SS, CC, ff, dd⟩ := d
 try dsimp only at *
 go_enter Tryz.func73, Tryz.ntmps73
 have hdd : dd = true := HHD.o
 subst hdd
 go_wp2_with (first | ((with_reducible show wkq (.load 25 _) _);refine lr 25 p _ HV0.o.blk info_d ?_) | (go_at_call 45;(with_reducible refine (HRI.o).mono ?_);rintro e w2 ⟨rfl, hf2⟩;have HF2 := fq0 HF0 hf2;have HV2 := jq7 (HV0.o.keep hf2);have HT2 := kq0 hf2 HT0;clear hf2) | ((with_reducible show wkq (.load 25 _) _);refine lr 25 p _ HV2.o.blk info_d ?_) | (go_at_call 69;(with_reducible refine (HTH.o _).mono ?_);rintro e w3 ⟨rfl, hf3⟩;have HF3 := fq0 HF2 hf3;have HV3 := jq7 (HV2.o.keep hf3);have HT3 := kq0 hf3 HT2;have q3 : w3.cell? ⟨p, 3, none⟩ = some (.bool true) := Bk.cell HV3.o.blk 3;have q1 : w3.cell? ⟨p, 1, none⟩ = some (.slice ca CC.length cc) := Bk.cell HV3.o.blk 1;have q0 : w3.cell? ⟨p, 0, none⟩ = some (.slice sa SS.length sc) := Bk.cell HV3.o.blk 0;clear hf3) | ((with_reducible show wkq (.build 36 _) _);refine build_ev rfl 36 _ rfl [] (by simp) ZB built_zb ?_) | ((with_reducible show wkq (.store 36 _ _) _);refine wpList_store_row rfl 36 _ _ rfl w.heap.size ZB rfl rfl 36 ZB HT3.o info_zb rfl ZB_one ?_))
 refine fin_ct w.heap.size 36 ZB (.int .i64 3) (by rfl) (by rfl) (by rfl) (by rfl) Tryz.underlying36 (by rfl) info_zb (ArrKit.Bk.row HT3.o ZB) ?_
 rw [HRX.o]
 exact ⟨rfl, ArrKit.Fr.row HF3.o _ _ (.inl (Nat.le_refl _))⟩

theorem rread_loop (p : Nat) (a : Int) (d : Dk) (sa : Option Addr) (sc : Nat) (ca : Option Addr) (cc : Nat) (w : World) (hok : d.ok) (hv : DAt w p d sa sc ca cc) (hr : formedB d = true) (ht : thereB d.S.length a = true) (hd : d.down = false) : Calls Tryz.prog 73 #[.pointer (some ⟨p, 0, none⟩), .int .i64 a] w fun e w' => e = .returned (readV (readX d a)) ∧ Fr0 w w' := by
 have hzb : ∀ W, (zeroValue 36).run Tryz.prog W = .ok (.agg ZB) W := by intro W;kernel_rfl
 have HF0 : Jq7 (Fr0 w (w.alloc (.cells ZB 36))) := jq7 (Fr.alloc (Fr.refl _ _) _)
 have HV0 := jq7 (hv.keep HF0.o)
 have HT0 : Jq7 (Bk (w.alloc (.cells ZB 36)) w.heap.size ZB 36) := jq7 (Bk.new w _)
 have HRI := jq7 (rformed_calls d sa sc ca cc (w.alloc (.cells ZB 36)) (hv.v.keep HF0.o))
 have HTH : Jq7 (∀ W, Calls Tryz.prog 69 #[.agg (dval d sa sc ca cc), .int .i64 a] W fun e w' => e = .returned (.bool (thereB d.S.length a)) ∧ Fr0 W w') := jq7 (fun W => there_calls _ _ _ _ _ _ _ W)
 have HRT := jq7 (show rightB d a = true by rw [rightB, ht, hr];rfl)
 rw [hr] at HRI
 rw [ht] at HTH
 have hcn := hv.v.cn
 have hcm := hv.v.cm
 have hsn := hv.v.sn
 have hsm := hv.v.sm
 have htt := thereB_true.1 ht
 obtain ⟨q, rfl⟩ : ∃ q : Nat, a = (q : Int) := ⟨a.toNat, by omega⟩
 have hq : q < d.S.length := by omega
 have HHD := jq7 hd
 have HOK := jq7 hok
 clear hv hok hr ht hd htt
 obtain ⟨SS, CC, ff, dd⟩ := d
 try dsimp only at *
 go_enter Tryz.func73, Tryz.ntmps73
 have hdd : dd = false := HHD.o
 subst hdd
 go_wp2_with (first | ((with_reducible show wkq (.load 25 _) _);refine lr 25 p _ HV0.o.blk info_d ?_) | (go_at_call 45;(with_reducible refine (HRI.o).mono ?_);rintro e w2 ⟨rfl, hf2⟩;have HF2 := fq0 HF0 hf2;have HV2 := jq7 (HV0.o.keep hf2);have HT2 := kq0 hf2 HT0;clear hf2) | ((with_reducible show wkq (.load 25 _) _);refine lr 25 p _ HV2.o.blk info_d ?_) | (go_at_call 69;(with_reducible refine (HTH.o _).mono ?_);rintro e w3 ⟨rfl, hf3⟩;have HF3 := fq0 HF2 hf3;have HV3 := jq7 (HV2.o.keep hf3);have HT3 := kq0 hf3 HT2;have q3 : w3.cell? ⟨p, 3, none⟩ = some (.bool false) := Bk.cell HV3.o.blk 3;have q1 : w3.cell? ⟨p, 1, none⟩ = some (.slice ca CC.length cc) := Bk.cell HV3.o.blk 1;have q0 : w3.cell? ⟨p, 0, none⟩ = some (.slice sa SS.length sc) := Bk.cell HV3.o.blk 0;clear hf3))
 go_loopw [6] (fun i wr => Back CC (q : Int) i ∧ wr = w3) (fun i _ => (intOf i + 1).toNat)
 case atStart => exact ⟨Back.start _ _, rfl⟩
 case round =>
  obtain ⟨hb, rfl⟩ := hrel
  rcases hb with ⟨m, hm, rfl, hl⟩ | ⟨rfl, hl⟩
  ·obtain ⟨b, o, rfl, hrg⟩ := HV3.o.v.rc m hm
   have HX := jq7 (HOK.o.c _ (List.getElem_mem hm))
   have hpos : wr.cell? ⟨b, o + m * 129, none⟩ = some (.int .i64 CC[m].pos) := hrg 0 _ (Wri.pos_at _)
   have HRG : Jq7 (wr.rangeAt b (o + m * 129 + 1) (CC[m].data.map B)) := jq7 (fun j u hj => by
    have := hrg (j + 1) u (by rw [Wri.data_at];exact hj)
    rw [Nat.add_assoc (o + m * 129) 1 j, Nat.add_comm 1 j]
    exact this)
   have HIB : Jq7 ((Tryz.prog.info? 36).map (·.size) = some (CC[m].data.map B).length) := jq7 (by rw [List.length_map, HX.o.len, info_b])
   have HIC : Jq7 ((Tryz.prog.info? 36).map (·.size) = some (CC[m].data.map B).toArray.size) := jq7 (by rw [List.size_toArray, List.length_map, HX.o.len, info_b])
   have HZC : Jq7 (ZB.size = (CC[m].data.map B).toArray.size) := jq7 ((show ZB.size = 128 by simp [ZB, Z128]).trans (by rw [List.size_toArray, List.length_map, HX.o.len]))
   have HOB : Jq7 ((CC[m].data.map B).toArray.all (·.oneCell') = true) := jq7 (by simp [B, Value.oneCell'])
   have HL := jq7 hl
   clear hrg hl
   cases hpe : (CC[m].pos == (q : Int)) with
   | true =>
    have HPE := jq7 hpe
    go_wp2_with (first | ((with_reducible show wkq (.load 36 _) _);refine wpList_load_mid rfl 36 _ rfl b (o + m * 129 + 1) rfl (CC[m].data.map B) _ HRG.o Tryz.underlying36 rfl HIB.o ?_) | ((with_reducible show wkq (.store 36 _ _) _);refine wpList_store_row rfl 36 _ _ rfl w.heap.size (CC[m].data.map B).toArray rfl rfl 36 ZB HT3.o HIC.o HZC.o HOB.o ?_))
    refine fin_ct w.heap.size 36 (CC[m].data.map B).toArray (.int .i64 0) (by rfl) (by rfl) (by rfl) (by rfl) Tryz.underlying36 (by rfl) HIC.o (ArrKit.Bk.row HT3.o _) ?_
    rw [readX_some (b := CC[m].data) HRT.o rfl (by rw [HL.o, last_take hm, if_pos (eq_of_beq HPE.o)])]
    exact ⟨rfl, ArrKit.Fr.row HF3.o _ _ (.inl (Nat.le_refl _))⟩
   | false =>
    have HPE := jq7 hpe
    go_wp2
    go_roundw
    case rel => exact ⟨Back.next hm HL.o (fun e => by have := HPE.o;rw [e] at this;simp at this), by first | rfl | trivial⟩
    case measure => simp [intOf] <;> omega
  ·have HL := jq7 hl
   clear hl
   obtain ⟨b, o, rfl, hrg⟩ := HV3.o.v.rs q hq
   have HX := jq7 (HOK.o.s _ (List.getElem_mem hq))
   have HSX : Jq7 (secAt ⟨SS, CC, ff, false⟩ (q : Int) = SS[q]) := jq7 (by rw [secAt, Int.toNat_natCast, List.getD_eq_getElem?_getD, List.getElem?_eq_getElem hq];rfl)
   have hnr : wr.cell? ⟨b, o + q * 130 + 128, none⟩ = some (.bool SS[q].nr) := hrg 128 _ (Sec.nr_at HX.o)
   have hlen : SS[q].data.length = 128 := HX.o
   have HRG : Jq7 (wr.rangeAt b (o + q * 130) (SS[q].data.map B)) := jq7 (fun j u hj => hrg j u (by
    have hj' : j < 128 := by
     have := (List.getElem?_eq_some_iff.1 hj).1
     rwa [List.length_map, hlen] at this
    rw [Sec.data_at HX.o hj'];exact hj))
   have HIB : Jq7 ((Tryz.prog.info? 36).map (·.size) = some (SS[q].data.map B).length) := jq7 (by rw [List.length_map, hlen, info_b])
   have HIC : Jq7 ((Tryz.prog.info? 36).map (·.size) = some (SS[q].data.map B).toArray.size) := jq7 (by rw [List.size_toArray, List.length_map, hlen, info_b])
   have HZC : Jq7 (ZB.size = (SS[q].data.map B).toArray.size) := jq7 ((show ZB.size = 128 by simp [ZB, Z128]).trans (by rw [List.size_toArray, List.length_map, hlen]))
   have HOB : Jq7 ((SS[q].data.map B).toArray.all (·.oneCell') = true) := jq7 (by simp [B, Value.oneCell'])
   clear hrg hlen
   cases hn : SS[q].nr with
   | true =>
    have HN := jq7 hn
    rw [hn] at hnr
    clear hn
    go_wp2_with (first | ((with_reducible show wkq (.build 36 _) _);refine build_ev rfl 36 _ rfl [] (by simp) ZB built_zb ?_) | ((with_reducible show wkq (.store 36 _ _) _);refine wpList_store_row rfl 36 _ _ rfl w.heap.size ZB rfl rfl 36 ZB HT3.o info_zb rfl ZB_one ?_))
    refine fin_ct w.heap.size 36 ZB (.int .i64 2) (by rfl) (by rfl) (by rfl) (by rfl) Tryz.underlying36 (by rfl) info_zb (ArrKit.Bk.row HT3.o ZB) ?_
    rw [readX_nr HRT.o rfl HL.o (by rw [HSX.o];exact HN.o)]
    exact ⟨rfl, ArrKit.Fr.row HF3.o _ _ (.inl (Nat.le_refl _))⟩
   | false =>
    have HN := jq7 hn
    rw [hn] at hnr
    clear hn
    go_wp2_with (first | ((with_reducible show wkq (.load 36 _) _);refine wpList_load_mid rfl 36 _ rfl b (o + q * 130) rfl (SS[q].data.map B) _ HRG.o Tryz.underlying36 rfl HIB.o ?_) | ((with_reducible show wkq (.store 36 _ _) _);refine wpList_store_row rfl 36 _ _ rfl w.heap.size (SS[q].data.map B).toArray rfl rfl 36 ZB HT3.o HIC.o HZC.o HOB.o ?_))
    refine fin_ct w.heap.size 36 (SS[q].data.map B).toArray (.int .i64 0) (by rfl) (by rfl) (by rfl) (by rfl) Tryz.underlying36 (by rfl) HIC.o (ArrKit.Bk.row HT3.o _) ?_
    rw [readX_data HRT.o rfl HL.o (by rw [HSX.o];exact HN.o), HSX.o]
    exact ⟨rfl, ArrKit.Fr.row HF3.o _ _ (.inl (Nat.le_refl _))⟩
theorem rread_calls (p : Nat) (a : Int) (d : Dk) (sa : Option Addr) (sc : Nat) (ca : Option Addr) (cc : Nat) (w : World) (hok : d.ok) (hv : DAt w p d sa sc ca cc) : Calls Tryz.prog 73 #[.pointer (some ⟨p, 0, none⟩), .int .i64 a] w fun e w' => e = .returned (readV (readX d a)) ∧ Fr0 w w' := by
 cases hr : formedB d with
 | false => exact rread_unf p a d sa sc ca cc w hok hv hr
 | true =>
  cases ht : thereB d.S.length a with
  | false => exact rread_out p a d sa sc ca cc w hok hv hr ht
  | true =>
   cases hd : d.down with
   | true => exact rread_down p a d sa sc ca cc w hok hv hr ht hd
   | false => exact rread_loop p a d sa sc ca cc w hok hv hr ht hd

end Go.Proofs.YtmkmpfnadcmcoaaGreatDoor.DiskRRead
namespace Go.Proofs.YtmkmpfnadcmcoaaGreatDoor.WordPut
open Go Go.RowKit K HeldKit
theorem ret_cut {a a' : Option Addr} {n n' c c' : Nat} {b b' : Bool} (h1 : a = a') (h2 : n = n') (h3 : c = c') (h4 : b = b') : Ending.returned (.tuple #[.slice a n c, .bool b]) = .returned (.tuple #[.slice a' n' c', .bool b']) := by rw [h1, h2, h3, h4]

def NoRoom (n : Nat) (p s : Int) : Prop := p < 0 ∨ (n : Int) < p ∨ (n : Int) - p < s

theorem cut_neg (a : Option Addr) (n c : Nat) (p s : Int) (w : World) (hn : n ≤ 140737488351232) (h : p < 0) :
  Calls Tryz.prog 98 #[.slice a n c, .int .i64 p, .int .i64 s] w fun e w' => e = .returned (.tuple #[.slice none 0 0, .bool false]) ∧ w = w' := by
 have c0 : decide (p < 0) = true := decide_eq_true h
 go_enter Tryz.func98, Tryz.ntmps98
 go_wp2
 go_ret2
 exact ⟨rfl, rfl⟩

theorem cut_far (a : Option Addr) (n c : Nat) (p s : Int) (w : World) (hn : n ≤ 140737488351232) (h : 0 ≤ p) (h1 : (n : Int) < p) :
  Calls Tryz.prog 98 #[.slice a n c, .int .i64 p, .int .i64 s] w fun e w' => e = .returned (.tuple #[.slice none 0 0, .bool false]) ∧ w = w' := by
 have c0 : decide (p < 0) = false := decide_eq_false (by omega)
 have c1 : decide ((n : Int) < p) = true := decide_eq_true h1
 go_enter Tryz.func98, Tryz.ntmps98
 go_wp2
 go_ret2
 exact ⟨rfl, rfl⟩

theorem cut_big (a : Option Addr) (n c : Nat) (p s : Int) (w : World) (hn : n ≤ 140737488351232) (h : 0 ≤ p) (h1 : p ≤ n) (h2 : (n : Int) - p < s) :
  Calls Tryz.prog 98 #[.slice a n c, .int .i64 p, .int .i64 s] w fun e w' => e = .returned (.tuple #[.slice none 0 0, .bool false]) ∧ w = w' := by
 have c0 : decide (p < 0) = false := decide_eq_false (by omega)
 have c1 : decide ((n : Int) < p) = false := decide_eq_false (by omega)
 have c2 : decide ((n : Int) - p < s) = true := decide_eq_true h2
 go_enter Tryz.func98, Tryz.ntmps98
 go_wp2
 go_ret2
 exact ⟨rfl, rfl⟩

theorem cut_no (a : Option Addr) (n c : Nat) (p s : Int) (w : World) (hn : n ≤ 140737488351232) (h : NoRoom n p s) :
  Calls Tryz.prog 98 #[.slice a n c, .int .i64 p, .int .i64 s] w fun e w' => e = .returned (.tuple #[.slice none 0 0, .bool false]) ∧ w = w' := by
 by_cases h1 : p < 0
 ·exact cut_neg a n c p s w hn h1
 by_cases h2 : (n : Int) < p
 ·exact cut_far a n c p s w hn (by omega) h2
 ·exact cut_big a n c p s w hn (by omega) (by omega) (by rcases h with h | h | h <;> omega)
theorem cut_ok (b o n c p s : Nat) (w : World) (hc : n ≤ c) (hcm : c ≤ 9223372036854775807) (hn : n ≤ 140737488351232) (h1 : p + s ≤ n) (h2 : 1 ≤ s) :
  Calls Tryz.prog 98 #[.slice (some ⟨b, o, none⟩) n c, .int .i64 p, .int .i64 s] w fun e w' => e = .returned (.tuple #[.slice (some ⟨b, o + p, none⟩) s (c - p), .bool true]) ∧ w = w' := by
 have c0 : decide ((p : Int) < 0) = false := decide_eq_false (by omega)
 have c1 : decide ((n : Int) < p) = false := decide_eq_false (by omega)
 have c2 : decide ((n : Int) - p < s) = false := decide_eq_false (by omega)
 have x1 : (0 : Int) ≤ p := by omega
 have x2 : (p : Int) ≤ p + s := by omega
 have x3 : (p : Int) + s ≤ c := by omega
 have hpc : p < c := by omega
 go_enter Tryz.func98, Tryz.ntmps98
 go_wp2
 go_ret2
 exact ⟨ret_cut rfl (by omega) rfl rfl, rfl⟩

def le (x : Nat) : Nat → List UInt8
 | 0 => []
 | k + 1 => UInt8.ofNat x :: le (x / 256) k
@[simp] theorem le_length (k : Nat) : ∀ x, (le x k).length = k := by
 induction k with
 | zero => intro x;rfl
 | succ k ih => intro x;simp [le, ih]
theorem le_get (k : Nat) : ∀ (x i : Nat) (h : i < (le x k).length), (le x k)[i] = UInt8.ofNat (x / 256 ^ i) := by
 induction k with
 | zero => intro x i h;simp [le] at h
 | succ k ih =>
  intro x i h
  cases i with
  | zero => simp [le]
  | succ i =>
   simp only [le, List.getElem_cons_succ]
   rw [ih, Nat.div_div_eq_div_mul, Nat.pow_succ, Nat.mul_comm]
def Fits (x w : Int) : Prop := 1 ≤ w ∧ w ≤ 8 ∧ 0 ≤ x ∧ (w < 8 → x / 2 ^ (8 * w).toNat ≤ 0)

theorem put_low (a : Option Addr) (n c : Nat) (p wd x : Int) (w : World) (hx : x ≤ 9223372036854775807) (h : wd < 1) :
  Calls Tryz.prog 81 #[.slice a n c, .int .i64 p, .int .i64 wd, .int .i64 x] w fun e w' => e = .returned (.int .i64 1) ∧ w = w' := by
 have c0 : decide (wd < 1) = true := decide_eq_true (by omega)
 go_enter Tryz.func81, Tryz.ntmps81
 go_wp2
 go_ret
 exact ⟨rfl, rfl⟩

theorem put_high (a : Option Addr) (n c : Nat) (p wd x : Int) (w : World) (hx : x ≤ 9223372036854775807) (h : 8 < wd) :
  Calls Tryz.prog 81 #[.slice a n c, .int .i64 p, .int .i64 wd, .int .i64 x] w fun e w' => e = .returned (.int .i64 1) ∧ w = w' := by
 have c0 : decide (wd < 1) = false := decide_eq_false (by omega)
 have c1 : decide (8 < wd) = true := decide_eq_true (by omega)
 go_enter Tryz.func81, Tryz.ntmps81
 go_wp2
 go_ret
 exact ⟨rfl, rfl⟩

theorem put_neg (a : Option Addr) (n c : Nat) (p wd x : Int) (w : World) (hx : x ≤ 9223372036854775807) (h1 : 1 ≤ wd) (h2 : wd ≤ 8) (h : x < 0) :
  Calls Tryz.prog 81 #[.slice a n c, .int .i64 p, .int .i64 wd, .int .i64 x] w fun e w' => e = .returned (.int .i64 1) ∧ w = w' := by
 have c0 : decide (wd < 1) = false := decide_eq_false (by omega)
 have c1 : decide (8 < wd) = false := decide_eq_false (by omega)
 have c2 : decide (x < 0) = true := decide_eq_true (by omega)
 go_enter Tryz.func81, Tryz.ntmps81
 go_wp2
 go_ret
 exact ⟨rfl, rfl⟩

theorem put_big (a : Option Addr) (n c : Nat) (p wd x : Int) (w : World) (hx : x ≤ 9223372036854775807) (h1 : 1 ≤ wd) (h2 : wd < 8) (h3 : 0 ≤ x) (h : 0 < x / 2 ^ (8 * wd).toNat) :
  Calls Tryz.prog 81 #[.slice a n c, .int .i64 p, .int .i64 wd, .int .i64 x] w fun e w' => e = .returned (.int .i64 1) ∧ w = w' := by
 have c0 : decide (wd < 1) = false := decide_eq_false (by omega)
 have c1 : decide (8 < wd) = false := decide_eq_false (by omega)
 have c2 : decide (x < 0) = false := decide_eq_false (by omega)
 have c3 : decide (wd < 8) = true := decide_eq_true (by omega)
 have c4 : decide (0 < x / 2 ^ (8 * wd).toNat) = true := decide_eq_true h
 go_enter Tryz.func81, Tryz.ntmps81
 go_wp2
 go_ret
 exact ⟨rfl, rfl⟩

theorem put_room8 (a : Option Addr) (n c : Nat) (p x : Int) (w : World) (hn : n ≤ 140737488351232) (hx : x ≤ 9223372036854775807) (h3 : 0 ≤ x)  (hr : NoRoom n p 8) :
  Calls Tryz.prog 81 #[.slice a n c, .int .i64 p, .int .i64 8, .int .i64 x] w fun e w' => e = .returned (.int .i64 1) ∧ w = w' := by
 have c0 : decide ((8 : Int) < 1) = false := by decide
 have c1 : decide (x < 0) = false := decide_eq_false (by omega)
 have HR := jq7 hr
 clear hr
 go_enter Tryz.func81, Tryz.ntmps81
 go_wp2_with (go_at_call 98;(with_reducible refine (cut_no a n c p 8 _ hn HR.o).mono ?_);rintro e w1 ⟨rfl, rfl⟩)
 go_ret
 exact ⟨rfl, rfl⟩

theorem put_rooms (a : Option Addr) (n c : Nat) (p wd x : Int) (w : World) (hn : n ≤ 140737488351232) (hx : x ≤ 9223372036854775807) (h3 : 0 ≤ x) (h1 : 1 ≤ wd) (h2 : wd < 8) (hf : x / 2 ^ (8 * wd).toNat ≤ 0) (hr : NoRoom n p wd) :
  Calls Tryz.prog 81 #[.slice a n c, .int .i64 p, .int .i64 wd, .int .i64 x] w fun e w' => e = .returned (.int .i64 1) ∧ w = w' := by
 have c0 : decide (wd < 1) = false := decide_eq_false (by omega)
 have c1 : decide (8 < wd) = false := decide_eq_false (by omega)
 have c2 : decide (x < 0) = false := decide_eq_false (by omega)
 have c3 : decide (wd < 8) = true := decide_eq_true (by omega)
 have c4 : decide (0 < x / 2 ^ (8 * wd).toNat) = false := decide_eq_false (by omega)
 have HR := jq7 hr
 clear hr
 go_enter Tryz.func81, Tryz.ntmps81
 go_wp2_with (go_at_call 98;(with_reducible refine (cut_no a n c p wd _ hn HR.o).mono ?_);rintro e w1 ⟨rfl, rfl⟩)
 go_ret
 exact ⟨rfl, rfl⟩

theorem put_no (a : Option Addr) (n c : Nat) (p wd x : Int) (w : World) (hn : n ≤ 140737488351232) (hx : x ≤ 9223372036854775807) (h : ¬ Fits x wd ∨ NoRoom n p wd) :
  Calls Tryz.prog 81 #[.slice a n c, .int .i64 p, .int .i64 wd, .int .i64 x] w fun e w' => e = .returned (.int .i64 1) ∧ w = w' := by
 by_cases h1 : wd < 1
 ·exact put_low a n c p wd x w hx h1
 by_cases h2 : 8 < wd
 ·exact put_high a n c p wd x w hx h2
 by_cases h3 : x < 0
 ·exact put_neg a n c p wd x w hx (by omega) (by omega) h3
 by_cases h4 : wd < 8
 ·by_cases h5 : 0 < x / 2 ^ (8 * wd).toNat
  ·exact put_big a n c p wd x w hx (by omega) h4 (by omega) h5
  ·exact put_rooms a n c p wd x w hn hx (by omega) (by omega) h4 (by omega) (h.resolve_left fun h => h ⟨by omega, by omega, by omega, fun _ => by omega⟩)
 ·obtain rfl : wd = 8 := by omega
  exact put_room8 a n c p x w hn hx (by omega) (h.resolve_left fun h => h ⟨by omega, by omega, by omega, fun h => by omega⟩)

def PutPost (g : Nat) (cs : Array Value) (t : TypeId) (o : Nat) (l : List UInt8) (w : World) (r : Int) (e : Ending) (w' : World) : Prop :=
 e = .returned (.int .i64 r) ∧ Bk w' g (lay cs o (l.map B)) t ∧ Fr (· = g) w w'
theorem put_ok8 (g o n c p wd x : Nat) (cs : Array Value) (t : TypeId) (w : World) (hb : Bk w g cs t) (hc : n ≤ c) (hcm : c ≤ 9223372036854775807) (hn : n ≤ 140737488351232) (hcs : o + n ≤ cs.size) (hx : x ≤ 9223372036854775807) (hr : p + wd ≤ n) (h1 : wd = 8) :
  Calls Tryz.prog 81 #[.slice (some ⟨g, o, none⟩) n c, .int .i64 p, .int .i64 wd, .int .i64 x] w (PutPost g cs t (o + p) (le x wd) w 0) := by
 have c0 : decide ((wd : Int) < 1) = false := decide_eq_false (by omega)
 have c1 : decide (8 < (wd : Int)) = false := decide_eq_false (by omega)
 have c2 : decide ((x : Int) < 0) = false := decide_eq_false (by omega)
 have c3 : decide ((wd : Int) < 8) = false := decide_eq_false (by omega)
 have h1a : 1 ≤ wd := by omega
 have h1b : wd ≤ 8 := by omega
 clear h1
 have HB := jq7 hb
 clear hb
 go_enter Tryz.func81, Tryz.ntmps81
 go_wp2_with (go_at_call 98;(with_reducible refine (cut_ok g o n c p wd _ hc hcm hn hr (by omega)).mono ?_);rintro e w1 ⟨rfl, rfl⟩)
 go_loopw [3, 44] (fun v u wr => ∃ k : Nat, k ≤ wd ∧ u = .int .i64 k ∧ v = .int .i64 ((x / 256 ^ k : Nat) : Int) ∧ Bk wr g (lay cs (o + p) (((le x wd).map B).take k)) t ∧ Fr (· = g) w wr) (fun _ u _ => wd - (intOf u).toNat)
 case atStart => exact ⟨0, by omega, rfl, by simp, HB.o, Fr.refl _ _⟩
 case round =>
  obtain ⟨k, hk, rfl, rfl, hbk, hfr⟩ := hrel
  have hlt0 : o + p + k < cs.size ∨ k = wd := by omega
  have HBK := jq7 hbk
  have HFR := jq7 hfr
  have hxk : x / 256 ^ k ≤ x := Nat.div_le_self _ _
  have HX : Jq7 (x / 256 ^ k / 256 = x / 256 ^ (k + 1)) := jq7 (by rw [Nat.div_div_eq_div_mul, Nat.pow_succ])
  have HB2 : Jq7 (k < wd → ∀ (h : k < (le x wd).length), B ((le x wd)[k]) = .int .u8 ((x / 256 ^ k % 256 : Nat) : Int)) := jq7 (fun _ h => by rw [le_get, B_ofNat])
  clear hbk hfr
  generalize x / 256 ^ k = y at *
  by_cases hlt : k < wd
  ·obtain ⟨v0, hv0⟩ : ∃ v0, wr.cell? ⟨g, o + p + k, none⟩ = some v0 := ⟨_, (HBK.o.cell _).trans (Array.getElem?_eq_getElem (by simp;omega))⟩
   have hfz := HBK.o.free (o + p + k)
   clear hlt0
   go_wp2
   have hv : ((le x wd).map B)[k]'(by simp;omega) = .int .u8 ((y : Int) % 256) := by
    rw [List.getElem_map, HB2.o hlt (by simp;omega)];rfl
   refine ⟨⟨k + 1, by omega, by go_num, congrArg (Value.int .i64) (by rw [← HX.o];omega), ?_, HFR.o.set _ _ (.inr rfl)⟩, by simp [intOf];omega⟩
   rw [lay_take (by simp;omega), hv]
   exact HBK.o.set _ _
  ·obtain rfl : k = wd := by omega
   go_wp2
   go_ret
   refine ⟨rfl, ?_, HFR.o⟩
   have := HBK.o
   rwa [List.take_of_length_le (by simp)] at this

theorem put_oks (g o n c p wd x : Nat) (cs : Array Value) (t : TypeId) (w : World) (hb : Bk w g cs t) (hc : n ≤ c) (hcm : c ≤ 9223372036854775807) (hn : n ≤ 140737488351232) (hcs : o + n ≤ cs.size) (hx : x ≤ 9223372036854775807) (hr : p + wd ≤ n) (h1 : 1 ≤ wd) (h2 : wd < 8) (hf : (x : Int) / 2 ^ (8 * wd) ≤ 0) :
  Calls Tryz.prog 81 #[.slice (some ⟨g, o, none⟩) n c, .int .i64 p, .int .i64 wd, .int .i64 x] w (PutPost g cs t (o + p) (le x wd) w 0) := by
 have c0 : decide ((wd : Int) < 1) = false := decide_eq_false (by omega)
 have c1 : decide (8 < (wd : Int)) = false := decide_eq_false (by omega)
 have c2 : decide ((x : Int) < 0) = false := decide_eq_false (by omega)
 have c3 : decide ((wd : Int) < 8) = true := decide_eq_true (by omega)
 have c4 : decide (0 < (x : Int) / 2 ^ (8 * wd)) = false := decide_eq_false (by omega)
 have HB := jq7 hb
 clear hb
 go_enter Tryz.func81, Tryz.ntmps81
 go_wp2_with (go_at_call 98;(with_reducible refine (cut_ok g o n c p wd _ hc hcm hn hr (by omega)).mono ?_);rintro e w1 ⟨rfl, rfl⟩)
 go_loopw [3, 44] (fun v u wr => ∃ k : Nat, k ≤ wd ∧ u = .int .i64 k ∧ v = .int .i64 ((x / 256 ^ k : Nat) : Int) ∧ Bk wr g (lay cs (o + p) (((le x wd).map B).take k)) t ∧ Fr (· = g) w wr) (fun _ u _ => wd - (intOf u).toNat)
 case atStart => exact ⟨0, by omega, rfl, by simp, HB.o, Fr.refl _ _⟩
 case round =>
  obtain ⟨k, hk, rfl, rfl, hbk, hfr⟩ := hrel
  have hlt0 : o + p + k < cs.size ∨ k = wd := by omega
  have HBK := jq7 hbk
  have HFR := jq7 hfr
  have hxk : x / 256 ^ k ≤ x := Nat.div_le_self _ _
  have HX : Jq7 (x / 256 ^ k / 256 = x / 256 ^ (k + 1)) := jq7 (by rw [Nat.div_div_eq_div_mul, Nat.pow_succ])
  have HB2 : Jq7 (k < wd → ∀ (h : k < (le x wd).length), B ((le x wd)[k]) = .int .u8 ((x / 256 ^ k % 256 : Nat) : Int)) := jq7 (fun _ h => by rw [le_get, B_ofNat])
  clear hbk hfr
  generalize x / 256 ^ k = y at *
  by_cases hlt : k < wd
  ·obtain ⟨v0, hv0⟩ : ∃ v0, wr.cell? ⟨g, o + p + k, none⟩ = some v0 := ⟨_, (HBK.o.cell _).trans (Array.getElem?_eq_getElem (by simp;omega))⟩
   have hfz := HBK.o.free (o + p + k)
   clear hlt0
   go_wp2
   have hv : ((le x wd).map B)[k]'(by simp;omega) = .int .u8 ((y : Int) % 256) := by
    rw [List.getElem_map, HB2.o hlt (by simp;omega)];rfl
   refine ⟨⟨k + 1, by omega, by go_num, congrArg (Value.int .i64) (by rw [← HX.o];omega), ?_, HFR.o.set _ _ (.inr rfl)⟩, by simp [intOf];omega⟩
   rw [lay_take (by simp;omega), hv]
   exact HBK.o.set _ _
  ·obtain rfl : k = wd := by omega
   go_wp2
   go_ret
   refine ⟨rfl, ?_, HFR.o⟩
   have := HBK.o
   rwa [List.take_of_length_le (by simp)] at this

theorem put_ok (g o n c p wd x : Nat) (cs : Array Value) (t : TypeId) (w : World) (hb : Bk w g cs t) (hc : n ≤ c) (hcm : c ≤ 9223372036854775807) (hn : n ≤ 140737488351232) (hcs : o + n ≤ cs.size) (hx : x ≤ 9223372036854775807) (hr : p + wd ≤ n) (hf : Fits x wd) :
  Calls Tryz.prog 81 #[.slice (some ⟨g, o, none⟩) n c, .int .i64 p, .int .i64 wd, .int .i64 x] w (PutPost g cs t (o + p) (le x wd) w 0) := by
 obtain ⟨h1, h2, h3, h4⟩ := hf
 by_cases h8 : wd = 8
 ·exact put_ok8 g o n c p wd x cs t w hb hc hcm hn hcs hx hr h8
 ·have h5 := h4 (by omega)
  rw [show (8 * (wd : Int)).toNat = 8 * wd by omega] at h5
  exact put_oks g o n c p wd x cs t w hb hc hcm hn hcs hx hr (by omega) (by omega) h5

end Go.Proofs.YtmkmpfnadcmcoaaGreatDoor.WordPut
namespace Go.Proofs.YtmkmpfnadcmcoaaGreatDoor.WordTake
open Go Go.RowKit K WordPut HeldKit
def allZ (l : List UInt8) : Bool := l.all (· == 0)
theorem or_zero (a b : Nat) : (a ||| b = 0) ↔ a = 0 ∧ b = 0 := by
 constructor
 ·intro h
  have h1 : a ≤ a ||| b := Nat.left_le_or
  have h2 : b ≤ a ||| b := Nat.right_le_or
  omega
 ·rintro ⟨rfl, rfl⟩;rfl
theorem zero_empty (a : Option Addr) (c : Nat) (w : World) :
  Calls Tryz.prog 68 #[.slice a 0 c] w fun e w' => e = .returned (.bool true) ∧ w = w' := by
 go_enter Tryz.func68, Tryz.ntmps68
 go_wp2
 refine wp_loop_rounds 1 ?_
 rw [rounds_succ]
 go_wp2
 go_ret
 exact ⟨rfl, rfl⟩
theorem zero_some (b o n c : Nat) (l : List UInt8) (w : World) (hl : l.length = n) (hrd : Rd w (some ⟨b, o, none⟩) l) (hc : n ≤ c) (hcm : c ≤ 9223372036854775807) (hn : n ≤ 140737488351232) :
  Calls Tryz.prog 68 #[.slice (some ⟨b, o, none⟩) n c] w fun e w' => e = .returned (.bool (allZ l)) ∧ w = w' := by
 have HM := jq7 hl
 have HR := jq7 hrd
 clear hl hrd
 go_enter Tryz.func68, Tryz.ntmps68
 go_wp2
 go_loop [3, 8] (fun v u => ∃ k z : Nat, k ≤ n ∧ u = .int .i64 k ∧ v = .int .u8 (z : Int) ∧ z < 256 ∧ (z = 0 ↔ allZ (l.take k) = true)) (fun _ u => n - (intOf u).toNat)
 case atStart => exact ⟨0, 0, by omega, rfl, rfl, by omega, by simp [allZ]⟩
 case round =>
  obtain ⟨k, z, hk, rfl, rfl, hz, hiff⟩ := hrel
  have HI := jq7 hiff
  clear hiff
  by_cases hlt : k < n
  ·obtain ⟨a, ea, hca⟩ := HR.o k (by rw [HM.o];exact hlt)
   obtain rfl := Option.some.inj ea
   rw [add_form] at hca
   have hnt : allZ (l.take (k + 1)) = (allZ (l.take k) && (l[k]'(by rw [HM.o];exact hlt) == 0)) := by
    rw [List.take_succ_eq_append_getElem (by rw [HM.o];exact hlt)];unfold allZ;rw [List.all_append];simp only [List.all_cons, List.all_nil, Bool.and_true]
   have HN := jq7 hnt
   clear hnt
   generalize l[k]'(by rw [HM.o];exact hlt) = bv at *
   have hb0 : (0 : Int) ≤ (bv.toNat : Int) := by omega
   have hb1 : (bv.toNat : Int) < 256 := by have := bv.toNat_lt;omega
   simp only [B] at hca
   clear ea
   go_wp2
   refine ⟨⟨k + 1, z ||| bv.toNat, by omega, by go_num, congrArg (Value.int .u8) (or_u8 _ _ hz bv.toNat_lt), ?_, ?_⟩, by simp [intOf];omega⟩
   ·exact Nat.or_lt_two_pow (n := 8) hz bv.toNat_lt
   ·rw [or_zero, HN.o, HI.o, Bool.and_eq_true, beq_iff_eq]
    constructor
    ·rintro ⟨h1, h2⟩;exact ⟨h1, UInt8.toNat_inj.mp h2⟩
    ·rintro ⟨h1, h2⟩;exact ⟨h1, by rw [h2];rfl⟩
  ·obtain rfl : k = n := by omega
   have hm : l.take k = l := List.take_of_length_le (by rw [HM.o];omega)
   have hfin : decide ((z : Int) = 0) = allZ l := by
    have := HI.o
    rw [hm] at this
    rw [Bool.eq_iff_iff, decide_eq_true_eq, ← this];omega
   have HF := jq7 hfin
   clear hm hfin
   go_wp2
   go_ret
   exact ⟨by rw [← HF.o];first | rfl | (congr 1;simp), rfl⟩
theorem zero_calls (A0 : Option Addr) (n c : Nat) (l : List UInt8) (w : World) (hl : l.length = n) (hrd : Rd w A0 l) (hc : n ≤ c) (hcm : c ≤ 9223372036854775807) (hn : n ≤ 140737488351232) :
  Calls Tryz.prog 68 #[.slice A0 n c] w fun e w' => e = .returned (.bool (allZ l)) ∧ w = w' := by
 by_cases h0 : n = 0
 ·subst h0
  have : l = [] := List.eq_nil_of_length_eq_zero hl
  subst this
  exact zero_empty A0 c w
 ·obtain ⟨b, o, rfl, -, -⟩ := hrd.form (by omega)
  exact zero_some b o n c l w hl hrd hc hcm hn

end Go.Proofs.YtmkmpfnadcmcoaaGreatDoor.WordTake
