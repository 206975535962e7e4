/- A sector read: the walk of the reference's Read. -/
import Derived.Test.YtlleandelcjhjaaDoorDiskRFlush
set_option linter.unusedVariables false
set_option linter.unusedSimpArgs false
namespace Go.Proofs.YtlleandelcjhjaaDoor.DiskRRead
open Go Go.RowKit Go.Proofs.YtlleandelcjhjaaDoor.K Go.Proofs.YtlleandelcjhjaaDoor.EqKit Go.Proofs.YtlleandelcjhjaaDoor.ArrKit Go.Proofs.YtlleandelcjhjaaDoor.HeldKit Go.Proofs.YtlleandelcjhjaaDoor.GKit Go.Proofs.YtlleandelcjhjaaDoor.GRow Go.Proofs.YtlleandelcjhjaaDoor.DiskKit Go.Proofs.YtlleandelcjhjaaDoor.DiskAsk Go.Proofs.YtlleandelcjhjaaDoor.DiskForm Go.Proofs.YtlleandelcjhjaaDoor.DiskAct Go.Proofs.YtlleandelcjhjaaDoor.DiskNew Go.Proofs.YtlleandelcjhjaaDoor.DiskCopy

def ZB : Array Value := (Z128.map B).toArray
theorem ZB_one : ZB.all (·.oneCell') = true := by simp [ZB, Z128, B, Value.oneCell']
theorem info_zb : (Tryd.prog.info? 27).map (·.size) = some ZB.size := by rw [info_b]; simp [ZB, Z128]
theorem built_zb : Tryd.prog.built 27 [] = some ZB := by kernel_rfl
theorem last_app (l : List Wri) (x : Wri) (a : Int) : lastAt (l ++ [x]) a = if x.pos = a then some x.data else lastAt l a := by simp [lastAt, List.foldl_append]
theorem last_take {l : List Wri} {m : Nat} (h : m < l.length) (a : Int) : lastAt (l.take (m + 1)) a = if l[m].pos = a then some l[m].data else lastAt (l.take m) a := by
  rw [List.take_succ_eq_append_getElem h, last_app]
theorem last_nil (a : Int) : lastAt [] a = none := rfl
/-- what a backward look goes by -/
def Back (l : List Wri) (a : Int) (i : Value) : Prop := (∃ m : Nat, m < l.length ∧ i = .int .i64 m ∧ lastAt l a = lastAt (l.take (m + 1)) a) ∨ (i = .int .i64 (-1) ∧ lastAt l a = none)
theorem Back.start (l : List Wri) (a : Int) : Back l a (.int .i64 ((l.length : Int) - 1)) := by
  cases h : l.length with
  | zero =>
    have : l = [] := List.eq_nil_of_length_eq_zero h
    subst this
    exact .inr ⟨rfl, rfl⟩
  | succ n => exact .inl ⟨n, by omega, by rw [show ((n + 1 : Nat) : Int) - 1 = (n : Int) by omega], by rw [← h, List.take_length]⟩
theorem Back.next {l : List Wri} {a : Int} {m : Nat} (hm : m < l.length) (h : lastAt l a = lastAt (l.take (m + 1)) a) (hne : l[m].pos ≠ a) : Back l a (.int .i64 ((m : Int) - 1)) := by
  rw [last_take hm, if_neg hne] at h
  cases m with
  | zero => exact .inr ⟨rfl, by rw [h]; rfl⟩
  | succ n => exact .inl ⟨n, by omega, by rw [show ((n + 1 : Nat) : Int) - 1 = (n : Int) by omega], h⟩
def readV (x : List UInt8 × Int) : Value := .tuple #[.agg (x.1.map B).toArray, .int .i64 x.2]
theorem readX_wrong {d : Dk} {a : Int} (h : rightB d a = false) : readX d a = (Z128, 1) := by rw [readX, if_pos h]
theorem readX_down {d : Dk} {a : Int} (h : rightB d a = true) (hd : d.down = true) : readX d a = (Z128, 3) := by rw [readX, if_neg (by simp [h]), if_pos hd]
theorem readX_some {d : Dk} {a : Int} {b : List UInt8} (h : rightB d a = true) (hd : d.down = false) (hl : lastAt d.C a = some b) : readX d a = (b, 0) := by rw [readX, if_neg (by simp [h]), if_neg (by simp [hd]), hl]
theorem readX_nr {d : Dk} {a : Int} (h : rightB d a = true) (hd : d.down = false) (hl : lastAt d.C a = none) (hn : (secAt d a).nr = true) : readX d a = (Z128, 2) := by rw [readX, if_neg (by simp [h]), if_neg (by simp [hd]), hl]; simp [hn]
theorem readX_data {d : Dk} {a : Int} (h : rightB d a = true) (hd : d.down = false) (hl : lastAt d.C a = none) (hn : (secAt d a).nr = false) : readX d a = ((secAt d a).data, 0) := by rw [readX, if_neg (by simp [h]), if_neg (by simp [hd]), hl]; simp [hn]

set_option maxHeartbeats 2000000 in
set_option maxRecDepth 100000 in
theorem rread_unf (p : Nat) (a : Int) (d : Dk) (sa : Option Addr) (sc : Nat) (ca : Option Addr) (cc : Nat) (w : World) (hok : d.ok) (hv : DAt w p d sa sc ca cc) (hr : formedB d = false) : Calls Tryd.prog 45 #[.pointer (some ⟨p, 0, none⟩), .int .i64 a] w fun e w' => e = .returned (readV (readX d a)) ∧ Fr0 w w' := by
  have hzb : ∀ W, (zeroValue 27).run Tryd.prog W = .ok (.agg ZB) W := by intro W; kernel_rfl
  have HF0 : Hid (Fr0 w (w.alloc (.cells ZB 27))) := Lib.hid (Fr.alloc (Fr.refl _ _) _)
  have HV0 := Lib.hid (hv.keep HF0.out)
  have HT0 : Hid (Bk (w.alloc (.cells ZB 27)) w.heap.size ZB 27) := Lib.hid (Bk.new w _)
  have HRI := Lib.hid (rformed_calls d sa sc ca cc (w.alloc (.cells ZB 27)) (hv.v.keep HF0.out))
  have HTH : Hid (∀ W, Calls Tryd.prog 72 #[.agg (dval d sa sc ca cc), .int .i64 a] W fun e w' => e = .returned (.bool (thereB d.S.length a)) ∧ Fr0 W w') := Lib.hid (fun W => there_calls _ _ _ _ _ _ _ W)
  have HRX := Lib.hid (readX_wrong (a := a) (show rightB d a = false by rw [rightB, hr, Bool.and_false]))
  rw [hr] at HRI
  clear hv hok hr
  obtain ⟨SS, CC, ff, dd⟩ := d
  try dsimp only at *
  go_enter Tryd.func45, Tryd.ntmps45
  go_wp2_with (first | ((with_reducible show wpList _ _ _ ({ dst := _, op := Op.load 39 _, type := _, pos := _, after := _, guard := _ } :: _) _ _); refine wpList_load_row_g (by rfl) 39 _ rfl p rfl 39 _ (0, 0) _ HV0.out.blk Tryd.underlying39 rfl info_d ?_) | (go_at_call 71; (with_reducible refine (HRI.out).mono ?_); rintro e w2 ⟨rfl, hf2⟩; have HF2 := Lib.hid (HF0.out.then0 hf2); have HV2 := Lib.hid (HV0.out.keep hf2); have HT2 := Lib.hid (hf2.keep HT0.out (fun h => h)); clear hf2) | ((with_reducible show wpList _ _ _ ({ dst := _, op := Op.build 27 _, type := _, pos := _, after := _, guard := _ } :: _) _ _); refine build_ev rfl 27 _ rfl [] (by simp) ZB built_zb ?_) | ((with_reducible show wpList _ _ _ ({ dst := _, op := Op.store 27 _ _, type := _, pos := _, after := _, guard := _ } :: _) _ _); refine wpList_store_row rfl 27 _ _ rfl w.heap.size ZB rfl rfl 27 ZB HT2.out info_zb rfl ZB_one ?_))
  refine fin_ct w.heap.size 27 ZB (.int .i64 1) (by rfl) (by rfl) (by rfl) (by rfl) Tryd.underlying27 (by rfl) info_zb (ArrKit.Bk.row HT2.out ZB) ?_
  rw [HRX.out]
  exact ⟨rfl, ArrKit.Fr.row HF2.out _ _ (.inl (Nat.le_refl _))⟩

set_option maxHeartbeats 2000000 in
set_option maxRecDepth 100000 in
theorem rread_out (p : Nat) (a : Int) (d : Dk) (sa : Option Addr) (sc : Nat) (ca : Option Addr) (cc : Nat) (w : World) (hok : d.ok) (hv : DAt w p d sa sc ca cc) (hr : formedB d = true) (ht : thereB d.S.length a = false) : Calls Tryd.prog 45 #[.pointer (some ⟨p, 0, none⟩), .int .i64 a] w fun e w' => e = .returned (readV (readX d a)) ∧ Fr0 w w' := by
  have hzb : ∀ W, (zeroValue 27).run Tryd.prog W = .ok (.agg ZB) W := by intro W; kernel_rfl
  have HF0 : Hid (Fr0 w (w.alloc (.cells ZB 27))) := Lib.hid (Fr.alloc (Fr.refl _ _) _)
  have HV0 := Lib.hid (hv.keep HF0.out)
  have HT0 : Hid (Bk (w.alloc (.cells ZB 27)) w.heap.size ZB 27) := Lib.hid (Bk.new w _)
  have HRI := Lib.hid (rformed_calls d sa sc ca cc (w.alloc (.cells ZB 27)) (hv.v.keep HF0.out))
  have HTH : Hid (∀ W, Calls Tryd.prog 72 #[.agg (dval d sa sc ca cc), .int .i64 a] W fun e w' => e = .returned (.bool (thereB d.S.length a)) ∧ Fr0 W w') := Lib.hid (fun W => there_calls _ _ _ _ _ _ _ W)
  have HRX := Lib.hid (readX_wrong (show rightB d a = false by rw [rightB, ht, Bool.false_and]))
  rw [hr] at HRI
  rw [ht] at HTH
  clear hv hok hr ht
  obtain ⟨SS, CC, ff, dd⟩ := d
  try dsimp only at *
  go_enter Tryd.func45, Tryd.ntmps45
  go_wp2_with (first | ((with_reducible show wpList _ _ _ ({ dst := _, op := Op.load 39 _, type := _, pos := _, after := _, guard := _ } :: _) _ _); refine wpList_load_row_g (by rfl) 39 _ rfl p rfl 39 _ (0, 0) _ HV0.out.blk Tryd.underlying39 rfl info_d ?_) | (go_at_call 71; (with_reducible refine (HRI.out).mono ?_); rintro e w2 ⟨rfl, hf2⟩; have HF2 := Lib.hid (HF0.out.then0 hf2); have HV2 := Lib.hid (HV0.out.keep hf2); have HT2 := Lib.hid (hf2.keep HT0.out (fun h => h)); clear hf2) | ((with_reducible show wpList _ _ _ ({ dst := _, op := Op.load 39 _, type := _, pos := _, after := _, guard := _ } :: _) _ _); refine wpList_load_row_g (by rfl) 39 _ rfl p rfl 39 _ (0, 0) _ HV2.out.blk Tryd.underlying39 rfl info_d ?_) | (go_at_call 72; (with_reducible refine (HTH.out _).mono ?_); rintro e w3 ⟨rfl, hf3⟩; have HF3 := Lib.hid (HF2.out.then0 hf3); have HV3 := Lib.hid (HV2.out.keep hf3); have HT3 := Lib.hid (hf3.keep HT2.out (fun h => h)); have q3 : w3.cell? ⟨p, 3, none⟩ = some (.bool dd) := Bk.cell HV3.out.blk 3; have q1 : w3.cell? ⟨p, 1, none⟩ = some (.slice ca CC.length cc) := Bk.cell HV3.out.blk 1; have q0 : w3.cell? ⟨p, 0, none⟩ = some (.slice sa SS.length sc) := Bk.cell HV3.out.blk 0; clear hf3) | ((with_reducible show wpList _ _ _ ({ dst := _, op := Op.build 27 _, type := _, pos := _, after := _, guard := _ } :: _) _ _); refine build_ev rfl 27 _ rfl [] (by simp) ZB built_zb ?_) | ((with_reducible show wpList _ _ _ ({ dst := _, op := Op.store 27 _ _, type := _, pos := _, after := _, guard := _ } :: _) _ _); refine wpList_store_row rfl 27 _ _ rfl w.heap.size ZB rfl rfl 27 ZB HT3.out info_zb rfl ZB_one ?_))
  refine fin_ct w.heap.size 27 ZB (.int .i64 1) (by rfl) (by rfl) (by rfl) (by rfl) Tryd.underlying27 (by rfl) info_zb (ArrKit.Bk.row HT3.out ZB) ?_
  rw [HRX.out]
  exact ⟨rfl, ArrKit.Fr.row HF3.out _ _ (.inl (Nat.le_refl _))⟩

set_option maxHeartbeats 2000000 in
set_option maxRecDepth 100000 in
theorem rread_down (p : Nat) (a : Int) (d : Dk) (sa : Option Addr) (sc : Nat) (ca : Option Addr) (cc : Nat) (w : World) (hok : d.ok) (hv : DAt w p d sa sc ca cc) (hr : formedB d = true) (ht : thereB d.S.length a = true) (hd : d.down = true) : Calls Tryd.prog 45 #[.pointer (some ⟨p, 0, none⟩), .int .i64 a] w fun e w' => e = .returned (readV (readX d a)) ∧ Fr0 w w' := by
  have hzb : ∀ W, (zeroValue 27).run Tryd.prog W = .ok (.agg ZB) W := by intro W; kernel_rfl
  have HF0 : Hid (Fr0 w (w.alloc (.cells ZB 27))) := Lib.hid (Fr.alloc (Fr.refl _ _) _)
  have HV0 := Lib.hid (hv.keep HF0.out)
  have HT0 : Hid (Bk (w.alloc (.cells ZB 27)) w.heap.size ZB 27) := Lib.hid (Bk.new w _)
  have HRI := Lib.hid (rformed_calls d sa sc ca cc (w.alloc (.cells ZB 27)) (hv.v.keep HF0.out))
  have HTH : Hid (∀ W, Calls Tryd.prog 72 #[.agg (dval d sa sc ca cc), .int .i64 a] W fun e w' => e = .returned (.bool (thereB d.S.length a)) ∧ Fr0 W w') := Lib.hid (fun W => there_calls _ _ _ _ _ _ _ W)
  have HRT := Lib.hid (show rightB d a = true by rw [rightB, ht, hr]; rfl)
  rw [hr] at HRI
  rw [ht] at HTH
  have HRX := Lib.hid (readX_down HRT.out hd)
  have HHD := Lib.hid hd
  clear hv hok hr ht hd
  obtain ⟨SS, CC, ff, dd⟩ := d
  try dsimp only at *
  go_enter Tryd.func45, Tryd.ntmps45
  have hdd : dd = true := HHD.out
  subst hdd
  go_wp2_with (first | ((with_reducible show wpList _ _ _ ({ dst := _, op := Op.load 39 _, type := _, pos := _, after := _, guard := _ } :: _) _ _); refine wpList_load_row_g (by rfl) 39 _ rfl p rfl 39 _ (0, 0) _ HV0.out.blk Tryd.underlying39 rfl info_d ?_) | (go_at_call 71; (with_reducible refine (HRI.out).mono ?_); rintro e w2 ⟨rfl, hf2⟩; have HF2 := Lib.hid (HF0.out.then0 hf2); have HV2 := Lib.hid (HV0.out.keep hf2); have HT2 := Lib.hid (hf2.keep HT0.out (fun h => h)); clear hf2) | ((with_reducible show wpList _ _ _ ({ dst := _, op := Op.load 39 _, type := _, pos := _, after := _, guard := _ } :: _) _ _); refine wpList_load_row_g (by rfl) 39 _ rfl p rfl 39 _ (0, 0) _ HV2.out.blk Tryd.underlying39 rfl info_d ?_) | (go_at_call 72; (with_reducible refine (HTH.out _).mono ?_); rintro e w3 ⟨rfl, hf3⟩; have HF3 := Lib.hid (HF2.out.then0 hf3); have HV3 := Lib.hid (HV2.out.keep hf3); have HT3 := Lib.hid (hf3.keep HT2.out (fun h => h)); have q3 : w3.cell? ⟨p, 3, none⟩ = some (.bool true) := Bk.cell HV3.out.blk 3; have q1 : w3.cell? ⟨p, 1, none⟩ = some (.slice ca CC.length cc) := Bk.cell HV3.out.blk 1; have q0 : w3.cell? ⟨p, 0, none⟩ = some (.slice sa SS.length sc) := Bk.cell HV3.out.blk 0; clear hf3) | ((with_reducible show wpList _ _ _ ({ dst := _, op := Op.build 27 _, type := _, pos := _, after := _, guard := _ } :: _) _ _); refine build_ev rfl 27 _ rfl [] (by simp) ZB built_zb ?_) | ((with_reducible show wpList _ _ _ ({ dst := _, op := Op.store 27 _ _, type := _, pos := _, after := _, guard := _ } :: _) _ _); refine wpList_store_row rfl 27 _ _ rfl w.heap.size ZB rfl rfl 27 ZB HT3.out info_zb rfl ZB_one ?_))
  refine fin_ct w.heap.size 27 ZB (.int .i64 3) (by rfl) (by rfl) (by rfl) (by rfl) Tryd.underlying27 (by rfl) info_zb (ArrKit.Bk.row HT3.out ZB) ?_
  rw [HRX.out]
  exact ⟨rfl, ArrKit.Fr.row HF3.out _ _ (.inl (Nat.le_refl _))⟩

set_option maxHeartbeats 2000000 in
set_option maxRecDepth 100000 in
theorem rread_loop (p : Nat) (a : Int) (d : Dk) (sa : Option Addr) (sc : Nat) (ca : Option Addr) (cc : Nat) (w : World) (hok : d.ok) (hv : DAt w p d sa sc ca cc) (hr : formedB d = true) (ht : thereB d.S.length a = true) (hd : d.down = false) : Calls Tryd.prog 45 #[.pointer (some ⟨p, 0, none⟩), .int .i64 a] w fun e w' => e = .returned (readV (readX d a)) ∧ Fr0 w w' := by
  have hzb : ∀ W, (zeroValue 27).run Tryd.prog W = .ok (.agg ZB) W := by intro W; kernel_rfl
  have HF0 : Hid (Fr0 w (w.alloc (.cells ZB 27))) := Lib.hid (Fr.alloc (Fr.refl _ _) _)
  have HV0 := Lib.hid (hv.keep HF0.out)
  have HT0 : Hid (Bk (w.alloc (.cells ZB 27)) w.heap.size ZB 27) := Lib.hid (Bk.new w _)
  have HRI := Lib.hid (rformed_calls d sa sc ca cc (w.alloc (.cells ZB 27)) (hv.v.keep HF0.out))
  have HTH : Hid (∀ W, Calls Tryd.prog 72 #[.agg (dval d sa sc ca cc), .int .i64 a] W fun e w' => e = .returned (.bool (thereB d.S.length a)) ∧ Fr0 W w') := Lib.hid (fun W => there_calls _ _ _ _ _ _ _ W)
  have HRT := Lib.hid (show rightB d a = true by rw [rightB, ht, hr]; rfl)
  rw [hr] at HRI
  rw [ht] at HTH
  have hcn := hv.v.cn
  have hcm := hv.v.cm
  have hsn := hv.v.sn
  have hsm := hv.v.sm
  have htt := thereB_true.1 ht
  obtain ⟨q, rfl⟩ : ∃ q : Nat, a = (q : Int) := ⟨a.toNat, by omega⟩
  have hq : q < d.S.length := by omega
  have HHD := Lib.hid hd
  have HOK := Lib.hid hok
  clear hv hok hr ht hd htt
  obtain ⟨SS, CC, ff, dd⟩ := d
  try dsimp only at *
  go_enter Tryd.func45, Tryd.ntmps45
  have hdd : dd = false := HHD.out
  subst hdd
  go_wp2_with (first | ((with_reducible show wpList _ _ _ ({ dst := _, op := Op.load 39 _, type := _, pos := _, after := _, guard := _ } :: _) _ _); refine wpList_load_row_g (by rfl) 39 _ rfl p rfl 39 _ (0, 0) _ HV0.out.blk Tryd.underlying39 rfl info_d ?_) | (go_at_call 71; (with_reducible refine (HRI.out).mono ?_); rintro e w2 ⟨rfl, hf2⟩; have HF2 := Lib.hid (HF0.out.then0 hf2); have HV2 := Lib.hid (HV0.out.keep hf2); have HT2 := Lib.hid (hf2.keep HT0.out (fun h => h)); clear hf2) | ((with_reducible show wpList _ _ _ ({ dst := _, op := Op.load 39 _, type := _, pos := _, after := _, guard := _ } :: _) _ _); refine wpList_load_row_g (by rfl) 39 _ rfl p rfl 39 _ (0, 0) _ HV2.out.blk Tryd.underlying39 rfl info_d ?_) | (go_at_call 72; (with_reducible refine (HTH.out _).mono ?_); rintro e w3 ⟨rfl, hf3⟩; have HF3 := Lib.hid (HF2.out.then0 hf3); have HV3 := Lib.hid (HV2.out.keep hf3); have HT3 := Lib.hid (hf3.keep HT2.out (fun h => h)); have q3 : w3.cell? ⟨p, 3, none⟩ = some (.bool false) := Bk.cell HV3.out.blk 3; have q1 : w3.cell? ⟨p, 1, none⟩ = some (.slice ca CC.length cc) := Bk.cell HV3.out.blk 1; have q0 : w3.cell? ⟨p, 0, none⟩ = some (.slice sa SS.length sc) := Bk.cell HV3.out.blk 0; clear hf3))
  go_loopw [6] (fun i wr => Back CC (q : Int) i ∧ wr = w3) (fun i _ => (intOf i + 1).toNat)
  case atStart => exact ⟨Back.start _ _, rfl⟩
  case round =>
    obtain ⟨hb, rfl⟩ := hrel
    rcases hb with ⟨m, hm, rfl, hl⟩ | ⟨rfl, hl⟩
    · obtain ⟨b, o, rfl, hrg⟩ := HV3.out.v.rc m hm
      have HX := Lib.hid (HOK.out.c _ (List.getElem_mem hm))
      have hpos : wr.cell? ⟨b, o + m * 129, none⟩ = some (.int .i64 CC[m].pos) := hrg 0 _ (Wri.pos_at _)
      have HRG : Hid (wr.rangeAt b (o + m * 129 + 1) (CC[m].data.map B)) := Lib.hid (fun j u hj => by
        have := hrg (j + 1) u (by rw [Wri.data_at]; exact hj)
        rw [Nat.add_assoc (o + m * 129) 1 j, Nat.add_comm 1 j]
        exact this)
      have HIB : Hid ((Tryd.prog.info? 27).map (·.size) = some (CC[m].data.map B).length) := Lib.hid (by rw [List.length_map, HX.out.len, info_b])
      have HIC : Hid ((Tryd.prog.info? 27).map (·.size) = some (CC[m].data.map B).toArray.size) := Lib.hid (by rw [List.size_toArray, List.length_map, HX.out.len, info_b])
      have HZC : Hid (ZB.size = (CC[m].data.map B).toArray.size) := Lib.hid ((show ZB.size = 128 by simp [ZB, Z128]).trans (by rw [List.size_toArray, List.length_map, HX.out.len]))
      have HOB : Hid ((CC[m].data.map B).toArray.all (·.oneCell') = true) := Lib.hid (by simp [B, Value.oneCell'])
      have HL := Lib.hid hl
      clear hrg hl
      cases hpe : (CC[m].pos == (q : Int)) with
      | true =>
        have HPE := Lib.hid hpe
        go_wp2_with (first | ((with_reducible show wpList _ _ _ ({ dst := _, op := Op.load 27 _, type := _, pos := _, after := _, guard := _ } :: _) _ _); refine wpList_load_mid rfl 27 _ rfl b (o + m * 129 + 1) rfl (CC[m].data.map B) _ HRG.out Tryd.underlying27 rfl HIB.out ?_) | ((with_reducible show wpList _ _ _ ({ dst := _, op := Op.store 27 _ _, type := _, pos := _, after := _, guard := _ } :: _) _ _); refine wpList_store_row rfl 27 _ _ rfl w.heap.size (CC[m].data.map B).toArray rfl rfl 27 ZB HT3.out HIC.out HZC.out HOB.out ?_))
        refine fin_ct w.heap.size 27 (CC[m].data.map B).toArray (.int .i64 0) (by rfl) (by rfl) (by rfl) (by rfl) Tryd.underlying27 (by rfl) HIC.out (ArrKit.Bk.row HT3.out _) ?_
        rw [readX_some (b := CC[m].data) HRT.out rfl (by rw [HL.out, last_take hm, if_pos (eq_of_beq HPE.out)])]
        exact ⟨rfl, ArrKit.Fr.row HF3.out _ _ (.inl (Nat.le_refl _))⟩
      | false =>
        have HPE := Lib.hid hpe
        go_wp2
        go_roundw
        case rel => exact ⟨Back.next hm HL.out (fun e => by have := HPE.out; rw [e] at this; simp at this), by first | rfl | trivial⟩
        case measure => simp [intOf] <;> omega
    · have HL := Lib.hid hl
      clear hl
      obtain ⟨b, o, rfl, hrg⟩ := HV3.out.v.rs q hq
      have HX := Lib.hid (HOK.out.s _ (List.getElem_mem hq))
      have HSX : Hid (secAt ⟨SS, CC, ff, false⟩ (q : Int) = SS[q]) := Lib.hid (by rw [secAt, Int.toNat_natCast, List.getD_eq_getElem?_getD, List.getElem?_eq_getElem hq]; rfl)
      have hnr : wr.cell? ⟨b, o + q * 130 + 128, none⟩ = some (.bool SS[q].nr) := hrg 128 _ (Sec.nr_at HX.out)
      have hlen : SS[q].data.length = 128 := HX.out
      have HRG : Hid (wr.rangeAt b (o + q * 130) (SS[q].data.map B)) := Lib.hid (fun j u hj => hrg j u (by
        have hj' : j < 128 := by
          have := (List.getElem?_eq_some_iff.1 hj).1
          rwa [List.length_map, hlen] at this
        rw [Sec.data_at HX.out hj']; exact hj))
      have HIB : Hid ((Tryd.prog.info? 27).map (·.size) = some (SS[q].data.map B).length) := Lib.hid (by rw [List.length_map, hlen, info_b])
      have HIC : Hid ((Tryd.prog.info? 27).map (·.size) = some (SS[q].data.map B).toArray.size) := Lib.hid (by rw [List.size_toArray, List.length_map, hlen, info_b])
      have HZC : Hid (ZB.size = (SS[q].data.map B).toArray.size) := Lib.hid ((show ZB.size = 128 by simp [ZB, Z128]).trans (by rw [List.size_toArray, List.length_map, hlen]))
      have HOB : Hid ((SS[q].data.map B).toArray.all (·.oneCell') = true) := Lib.hid (by simp [B, Value.oneCell'])
      clear hrg hlen
      cases hn : SS[q].nr with
      | true =>
        have HN := Lib.hid hn
        rw [hn] at hnr
        clear hn
        go_wp2_with (first | ((with_reducible show wpList _ _ _ ({ dst := _, op := Op.build 27 _, type := _, pos := _, after := _, guard := _ } :: _) _ _); refine build_ev rfl 27 _ rfl [] (by simp) ZB built_zb ?_) | ((with_reducible show wpList _ _ _ ({ dst := _, op := Op.store 27 _ _, type := _, pos := _, after := _, guard := _ } :: _) _ _); refine wpList_store_row rfl 27 _ _ rfl w.heap.size ZB rfl rfl 27 ZB HT3.out info_zb rfl ZB_one ?_))
        refine fin_ct w.heap.size 27 ZB (.int .i64 2) (by rfl) (by rfl) (by rfl) (by rfl) Tryd.underlying27 (by rfl) info_zb (ArrKit.Bk.row HT3.out ZB) ?_
        rw [readX_nr HRT.out rfl HL.out (by rw [HSX.out]; exact HN.out)]
        exact ⟨rfl, ArrKit.Fr.row HF3.out _ _ (.inl (Nat.le_refl _))⟩
      | false =>
        have HN := Lib.hid hn
        rw [hn] at hnr
        clear hn
        go_wp2_with (first | ((with_reducible show wpList _ _ _ ({ dst := _, op := Op.load 27 _, type := _, pos := _, after := _, guard := _ } :: _) _ _); refine wpList_load_mid rfl 27 _ rfl b (o + q * 130) rfl (SS[q].data.map B) _ HRG.out Tryd.underlying27 rfl HIB.out ?_) | ((with_reducible show wpList _ _ _ ({ dst := _, op := Op.store 27 _ _, type := _, pos := _, after := _, guard := _ } :: _) _ _); refine wpList_store_row rfl 27 _ _ rfl w.heap.size (SS[q].data.map B).toArray rfl rfl 27 ZB HT3.out HIC.out HZC.out HOB.out ?_))
        refine fin_ct w.heap.size 27 (SS[q].data.map B).toArray (.int .i64 0) (by rfl) (by rfl) (by rfl) (by rfl) Tryd.underlying27 (by rfl) HIC.out (ArrKit.Bk.row HT3.out _) ?_
        rw [readX_data HRT.out rfl HL.out (by rw [HSX.out]; exact HN.out), HSX.out]
        exact ⟨rfl, ArrKit.Fr.row HF3.out _ _ (.inl (Nat.le_refl _))⟩
/-- READ: what the reference's Read answers. -/
theorem rread_calls (p : Nat) (a : Int) (d : Dk) (sa : Option Addr) (sc : Nat) (ca : Option Addr) (cc : Nat) (w : World) (hok : d.ok) (hv : DAt w p d sa sc ca cc) : Calls Tryd.prog 45 #[.pointer (some ⟨p, 0, none⟩), .int .i64 a] w fun e w' => e = .returned (readV (readX d a)) ∧ Fr0 w w' := by
  cases hr : formedB d with
  | false => exact rread_unf p a d sa sc ca cc w hok hv hr
  | true =>
    cases ht : thereB d.S.length a with
    | false => exact rread_out p a d sa sc ca cc w hok hv hr ht
    | true =>
      cases hd : d.down with
      | true => exact rread_down p a d sa sc ca cc w hok hv hr ht hd
      | false => exact rread_loop p a d sa sc ca cc w hok hv hr ht hd

end Go.Proofs.YtlleandelcjhjaaDoor.DiskRRead
