/- A sector read by a table: the walks of asked and Read of the reference, and of remap.Read. -/
import Derived.Test.YtlleandelcjhjaaDoorRmRead
import Derived.Test.YtlleandelcjhjaaDoorRmRPut
set_option maxRecDepth 100000
set_option linter.unusedVariables false
set_option linter.unusedSimpArgs false
namespace Go.Proofs.YtlleandelcjhjaaDoor.RmReads
open Go Go.RowKit Go.Proofs.YtlleandelcjhjaaDoor.K Go.Proofs.YtlleandelcjhjaaDoor.EqKit Go.Proofs.YtlleandelcjhjaaDoor.ArrKit Go.Proofs.YtlleandelcjhjaaDoor.HeldKit Go.Proofs.YtlleandelcjhjaaDoor.GKit Go.Proofs.YtlleandelcjhjaaDoor.GRow Go.Proofs.YtlleandelcjhjaaDoor.DiskKit Go.Proofs.YtlleandelcjhjaaDoor.RmKit Go.Proofs.YtlleandelcjhjaaDoor.MapKit Go.Proofs.YtlleandelcjhjaaDoor.RmRight Go.Proofs.YtlleandelcjhjaaDoor.RmRRight Go.Proofs.YtlleandelcjhjaaDoor.RmTab Go.Proofs.YtlleandelcjhjaaDoor.RmPut Go.Proofs.YtlleandelcjhjaaDoor.RmAsk Go.Proofs.YtlleandelcjhjaaDoor.RmSame Go.Proofs.YtlleandelcjhjaaDoor.DiskRRead Go.Proofs.YtlleandelcjhjaaDoor.RmRead

theorem Z128_len : Z128.length = 128 := by simp [Z128]
theorem lastAt_len {l : List Wri} (h : ∀ x ∈ l, x.ok) {q : Int} {b : List UInt8} (hb : lastAt l q = some b) : b.length = 128 := by
  have key : ∀ (l : List Wri) (r : Option (List UInt8)), (∀ x ∈ l, x.ok) → (∀ y, r = some y → y.length = 128) → ∀ y, l.foldl (fun r x => if x.pos = q then some x.data else r) r = some y → y.length = 128 := by
    intro l
    induction l with
    | nil => intro r _ h2 y hy; exact h2 y hy
    | cons x t ih =>
      intro r h1 h2 y hy
      rw [List.foldl_cons] at hy
      refine ih _ (fun z hz => h1 z (List.mem_cons_of_mem _ hz)) (fun z hz => ?_) y hy
      split at hz
      · cases hz; exact (h1 x (List.mem_cons_self ..)).len
      · exact h2 z hz
  exact key l none h (fun y e => by cases e) b hb
theorem tab_len {m : Rm} {s : Int} (h : tabB m s = true) : m.ps.length ≤ 20 := (tab_parts h).2.2.2.1
theorem readX_len {d : Dk} (h : d.ok) (q : Int) : (readX d q).1.length = 128 := by
  unfold readX
  split
  · exact Z128_len
  · split
    · exact Z128_len
    · split
      · rename_i x hx
        exact lastAt_len h.c hx
      · split
        · exact Z128_len
        · show (secAt d q).data.length = 128
          unfold secAt
          rw [List.getD_eq_getElem?_getD]
          cases e : d.S[q.toNat]? with
          | none => exact Z128_len
          | some s => exact h.s s (List.mem_of_getElem? e)
/-- what is read by a table -/
def rdX (d : Dk) (m : Rm) (n : Int) : List UInt8 × Int := if askedB d m n = true then readX d (atI m n) else (Z128, 1)
theorem rdX_len {d : Dk} (h : d.ok) (m : Rm) (n : Int) : (rdX d m n).1.length = 128 := by
  unfold rdX
  split
  · exact readX_len h _
  · exact Z128_len

set_option maxHeartbeats 2000000 in
set_option maxRecDepth 100000 in
theorem rasked_calls (d : Dk) (sa : Option Addr) (sc : Nat) (ca : Option Addr) (cc : Nat) (m : Rm) (a : Option Addr) (c : Nat) (n : Int) (w : World) (hok : d.ok) (hv : DV w d sa sc ca cc) (hm : m.ok) (hr : RV w m a c) (hn : (Lit.int .i64 n).wf = true) : Calls Tryd.prog 44 #[.agg (dval d sa sc ca cc), .agg (rval m a c), .int .i64 n] w fun e w' => e = .returned (.bool (askedB d m n)) ∧ Fr0 w w' := by
  have hs1 : (w.alloc (.cells (dval d sa sc ca cc) 39)).heap.size = w.heap.size + 1 := by simp
  have HX : Hid (Bk ((w.alloc (.cells (dval d sa sc ca cc) 39)).alloc (.cells (rval m a c) 24)) w.heap.size (dval d sa sc ca cc) 39) := Lib.hid (Bk.alloc (Bk.new w _) _)
  have HY : Hid (Bk ((w.alloc (.cells (dval d sa sc ca cc) 39)).alloc (.cells (rval m a c) 24)) (w.heap.size + 1) (rval m a c) 24) := Lib.hid (by have := Bk.new (w.alloc (.cells (dval d sa sc ca cc) 39)) (.cells (rval m a c) 24); rwa [hs1] at this)
  have HF : Hid (Fr0 w ((w.alloc (.cells (dval d sa sc ca cc) 39)).alloc (.cells (rval m a c) 24))) := Lib.hid (Fr.alloc (Fr.alloc (Fr.refl _ _) _) _)
  have HHV : Hid (∀ W, Fr0 w W → Calls Tryd.prog 52 #[.agg (dval d sa sc ca cc)] W fun e w' => e = .returned (.int .i64 (hvI d)) ∧ Fr0 W w') := Lib.hid (fun W f => rhalves_calls d sa sc ca cc W hok (hv.keep f))
  have HUS : Hid (∀ W, Calls Tryd.prog 40 #[.int .i64 n, .int .i64 (hvI d)] W fun e w' => e = .returned (.bool (usableB n (hvI d))) ∧ w' = W) := Lib.hid (fun W => rusable_calls n (hvI d) W hn (hvI_range d))
  have HRI : Hid (∀ W, Fr0 w W → Calls Tryd.prog 14 #[.agg (rval m a c), .int .i64 (d.S.length : Int)] W fun e w' => e = .returned (.bool (tabB m (d.S.length : Int))) ∧ Fr0 W w') := Lib.hid (fun W f => RmRRight.rright_calls m a c _ W hm (hr.keep f) (wf_nat (Nat.le_trans hv.sn hv.sm)))
  have HP0 : Hid ((dval d sa sc ca cc)[0]? = some (.slice sa d.S.length sc)) := Lib.hid rfl
  have HID : Hid ((Tryd.prog.info? 39).map (·.size) = some (dval d sa sc ca cc).size) := Lib.hid info_d
  have HIN : Hid ((Tryd.prog.info? 24).map (·.size) = some (rval m a c).size) := Lib.hid (info_r _ _)
  have HAS : Hid (askedB d m n = (decide (0 < hvI d) && tabB m (d.S.length : Int) && usableB n (hvI d))) := Lib.hid (by
    unfold askedB usableB
    cases decide (0 < hvI d) <;> cases tabB m (d.S.length : Int) <;> simp)
  have hrg := hvI_range d
  rw [HAS.out]
  clear hok hv hm hr hs1 HAS
  generalize rval m a c = Y at *
  generalize (dval d sa sc ca cc) = X at *
  generalize hvI d = h at *
  generalize tabB m (d.S.length : Int) = tt at *
  generalize usableB n h = us at *
  by_cases hh : 0 < h
  · have e1 : decide (0 < h) = true := decide_eq_true hh
    rw [e1, Bool.true_and]
    cases tt with
    | false =>
      go_enter Tryd.func44, Tryd.ntmps44
      go_wp2_with (first | ((with_reducible show wpList _ _ _ ({ dst := _, op := Op.load 39 _, type := _, pos := _, after := _, guard := _ } :: _) _ _); refine wpList_load_row_g (by rfl) 39 _ rfl w.heap.size rfl 39 X (0, 0) _ HX.out Tryd.underlying39 rfl HID.out ?_) | ((with_reducible show wpList _ _ _ ({ dst := _, op := Op.load 24 _, type := _, pos := _, after := _, guard := _ } :: _) _ _); refine wpList_load_row_g (by rfl) 24 _ rfl (w.heap.size + 1) rfl 24 Y (0, 0) _ HY1.out Tryd.underlying24 rfl HIN.out ?_) | (go_at_call 52; (with_reducible refine (HHV.out _ HF.out).mono ?_); rintro e w1 ⟨rfl, hf1⟩; have HF1 := Lib.hid (HF.out.then0 hf1); have HY1 := Lib.hid (hf1.keep HY.out (fun h => h)); have c0 : w1.cell? ⟨w.heap.size, 0, none⟩ = some (.slice sa d.S.length sc) := (Bk.cell (hf1.keep HX.out (fun h => h)) 0).trans HP0.out; clear hf1) | (go_at_call 14; (with_reducible refine (HRI.out _ HF1.out).mono ?_); rintro e w2 ⟨rfl, hf2⟩; have HF2 := Lib.hid (HF1.out.then0 hf2); clear hf2))
      go_ret
      exact ⟨rfl, HF2.out⟩
    | true =>
      go_enter Tryd.func44, Tryd.ntmps44
      go_wp2_with (first | ((with_reducible show wpList _ _ _ ({ dst := _, op := Op.load 39 _, type := _, pos := _, after := _, guard := _ } :: _) _ _); refine wpList_load_row_g (by rfl) 39 _ rfl w.heap.size rfl 39 X (0, 0) _ HX.out Tryd.underlying39 rfl HID.out ?_) | ((with_reducible show wpList _ _ _ ({ dst := _, op := Op.load 24 _, type := _, pos := _, after := _, guard := _ } :: _) _ _); refine wpList_load_row_g (by rfl) 24 _ rfl (w.heap.size + 1) rfl 24 Y (0, 0) _ HY1.out Tryd.underlying24 rfl HIN.out ?_) | (go_at_call 52; (with_reducible refine (HHV.out _ HF.out).mono ?_); rintro e w1 ⟨rfl, hf1⟩; have HF1 := Lib.hid (HF.out.then0 hf1); have HY1 := Lib.hid (hf1.keep HY.out (fun h => h)); have c0 : w1.cell? ⟨w.heap.size, 0, none⟩ = some (.slice sa d.S.length sc) := (Bk.cell (hf1.keep HX.out (fun h => h)) 0).trans HP0.out; clear hf1) | (go_at_call 14; (with_reducible refine (HRI.out _ HF1.out).mono ?_); rintro e w2 ⟨rfl, hf2⟩; have HF2 := Lib.hid (HF1.out.then0 hf2); clear hf2) | (go_at_call 40; (with_reducible refine (HUS.out _).mono ?_); rintro e w3 ⟨rfl, rfl⟩))
      go_ret
      exact ⟨by cases us <;> rfl, HF2.out⟩
  · have e1 : decide (0 < h) = false := decide_eq_false hh
    rw [e1, Bool.false_and, Bool.false_and]
    have hz : h = 0 := by omega
    subst hz
    clear hh e1 hrg
    go_enter Tryd.func44, Tryd.ntmps44
    go_wp2_with (first | ((with_reducible show wpList _ _ _ ({ dst := _, op := Op.load 39 _, type := _, pos := _, after := _, guard := _ } :: _) _ _); refine wpList_load_row_g (by rfl) 39 _ rfl w.heap.size rfl 39 X (0, 0) _ HX.out Tryd.underlying39 rfl HID.out ?_) | (go_at_call 52; (with_reducible refine (HHV.out _ HF.out).mono ?_); rintro e w1 ⟨rfl, hf1⟩; have HF1 := Lib.hid (HF.out.then0 hf1); clear hf1))
    go_ret
    exact ⟨rfl, HF1.out⟩

set_option maxHeartbeats 2000000 in
set_option maxRecDepth 100000 in
theorem rmread_calls (p : Nat) (d : Dk) (sa : Option Addr) (sc : Nat) (ca : Option Addr) (cc : Nat) (m : Rm) (a : Option Addr) (c : Nat) (n : Int) (w : World) (hok : d.ok) (hv : DAt w p d sa sc ca cc) (hm : m.ok) (hr : RV w m a c) (hn : (Lit.int .i64 n).wf = true) : Calls Tryd.prog 22 #[.pointer (some ⟨p, 0, none⟩), .agg (rval m a c), .int .i64 n] w fun e w' => e = .returned (readV (rdX d m n)) ∧ Fr0 w w' := by
  have hz := zero_bl
  have hs1 : (w.alloc (.cells (rval m a c) 24)).heap.size = w.heap.size + 1 := by simp
  have HX : Hid (Bk ((w.alloc (.cells (rval m a c) 24)).alloc (.cells ZB 27)) w.heap.size (rval m a c) 24) := Lib.hid (Bk.alloc (Bk.new w _) _)
  have HR : Hid (Bk ((w.alloc (.cells (rval m a c) 24)).alloc (.cells ZB 27)) (w.heap.size + 1) ZB 27) := Lib.hid (by have := Bk.new (w.alloc (.cells (rval m a c) 24)) (.cells ZB 27); rwa [hs1] at this)
  have HF : Hid (Fr0 w ((w.alloc (.cells (rval m a c) 24)).alloc (.cells ZB 27))) := Lib.hid (Fr.alloc (Fr.alloc (Fr.refl _ _) _) _)
  have HAS : Hid (∀ W, Fr0 w W → Calls Tryd.prog 42 #[.pointer (some ⟨p, 0, none⟩), .agg (rval m a c), .int .i64 n] W fun e w' => e = .returned (.bool (askedB d m n)) ∧ Fr0 W w') := Lib.hid (fun W f => asked_calls p d sa sc ca cc m a c n W hok (hv.keep f) hm (hr.keep f) hn)
  have HIN : Hid ((Tryd.prog.info? 24).map (·.size) = some (rval m a c).size) := Lib.hid (info_r _ _)
  have HIX : Hid (∀ q, (Tryd.prog.info? 27).map (·.size) = some ((readX d q).1.map B).toArray.size ∧ ZB.size = ((readX d q).1.map B).toArray.size ∧ ((readX d q).1.map B).toArray.all (·.oneCell') = true) := Lib.hid (fun q => ⟨info_l (readX_len hok q), size_l (readX_len hok q), one_l _⟩)
  have HRE : Hid (∀ W q, Fr0 w W → Calls Tryd.prog 43 #[.pointer (some ⟨p, 0, none⟩), .int .i64 q] W fun e w' => e = .returned (.tuple #[.agg ((readX d q).1.map B).toArray, .int .i64 (readX d q).2]) ∧ Fr0 W w') := Lib.hid (fun W q f => DiskRead.read_calls p q d sa sc ca cc W hok (hv.keep f))
  have HAT : Hid (∀ W, m.ps.length ≤ 20 → Fr0 w W → Calls Tryd.prog 15 #[.agg (rval m a c), .int .i64 n] W fun e w' => e = .returned (.int .i64 (atI m n)) ∧ Fr0 W w') := Lib.hid (fun W h f => at_calls m a c n W (hr.keep f) (by omega))
  have HTL : askedB d m n = true → m.ps.length ≤ 20 := fun h => by
    unfold askedB at h
    rw [Bool.and_eq_true] at h
    exact tab_len h.2
  have HBV := Lib.hid hv
  unfold rdX readV
  clear hok hm hr hn hs1
  generalize rval m a c = X at *
  cases hask : askedB d m n with
  | false =>
    rw [hask] at HAS
    clear hask HTL
    rw [if_neg (by simp)]
    go_enter Tryd.func22, Tryd.ntmps22
    go_wp2_with (first | ((with_reducible show wpList _ _ _ ({ dst := _, op := Op.load 24 _, type := _, pos := _, after := _, guard := _ } :: _) _ _); refine wpList_load_row_g (by rfl) 24 _ rfl w.heap.size rfl 24 X (0, 0) _ HX.out Tryd.underlying24 rfl HIN.out ?_) | (go_at_call 42; (with_reducible refine (HAS.out _ HF.out).mono ?_); rintro e w1 ⟨rfl, hf1⟩; have HF1 := Lib.hid (HF.out.then0 hf1); have HX1 := Lib.hid (hf1.keep HX.out (fun h => h)); have HR1 := Lib.hid (hf1.keep HR.out (fun h => h)); clear hf1) | ((with_reducible show wpList _ _ _ ({ dst := _, op := Op.build 27 _, type := _, pos := _, after := _, guard := _ } :: _) _ _); refine build_ev rfl 27 _ rfl [] (by simp) ZB built_zb ?_) | ((with_reducible show wpList _ _ _ ({ dst := _, op := Op.store 27 _ _, type := _, pos := _, after := _, guard := _ } :: _) _ _); refine wpList_store_row rfl 27 _ _ rfl (w.heap.size + 1) ZB rfl rfl 27 ZB HR1.out info_zb rfl ZB_one ?_))
    refine fin_ct (w.heap.size + 1) 27 ZB (.int .i64 1) (by rfl) (by rfl) (by rfl) (by rfl) Tryd.underlying27 (by rfl) info_zb (ArrKit.Bk.row HR1.out _) ?_
    exact ⟨rfl, ArrKit.Fr.row HF1.out _ _ (.inl (by omega))⟩
  | true =>
    have hlen := HTL hask
    rw [hask] at HAS
    clear hask HTL
    rw [if_pos rfl]
    generalize atI m n = q at *
    go_enter Tryd.func22, Tryd.ntmps22
    go_wp2_with (first | ((with_reducible show wpList _ _ _ ({ dst := _, op := Op.load 24 _, type := _, pos := _, after := _, guard := _ } :: _) _ _); refine wpList_load_row_g (by rfl) 24 _ rfl w.heap.size rfl 24 X (0, 0) _ HX.out Tryd.underlying24 rfl HIN.out ?_) | (go_at_call 42; (with_reducible refine (HAS.out _ HF.out).mono ?_); rintro e w1 ⟨rfl, hf1⟩; have HF1 := Lib.hid (HF.out.then0 hf1); have HX1 := Lib.hid (hf1.keep HX.out (fun h => h)); have HR1 := Lib.hid (hf1.keep HR.out (fun h => h)); clear hf1) | ((with_reducible show wpList _ _ _ ({ dst := _, op := Op.load 24 _, type := _, pos := _, after := _, guard := _ } :: _) _ _); refine wpList_load_row_g (by rfl) 24 _ rfl w.heap.size rfl 24 X (0, 0) _ HX1.out Tryd.underlying24 rfl HIN.out ?_) | (go_at_call 15; (with_reducible refine (HAT.out _ hlen HF1.out).mono ?_); rintro e w2 ⟨rfl, hf2⟩; have HF2 := Lib.hid (HF1.out.then0 hf2); have HR2 := Lib.hid (hf2.keep HR1.out (fun h => h)); clear hf2) | (go_at_call 43; (with_reducible refine (HRE.out _ _ HF2.out).mono ?_); rintro e w3 ⟨rfl, hf3⟩; have HF3 := Lib.hid (HF2.out.then0 hf3); have HR3 := Lib.hid (hf3.keep HR2.out (fun h => h)); clear hf3) | ((with_reducible show wpList _ _ _ ({ dst := _, op := Op.store 27 _ _, type := _, pos := _, after := _, guard := _ } :: _) _ _); refine wpList_store_row rfl 27 _ _ rfl (w.heap.size + 1) ((readX d q).1.map B).toArray rfl rfl 27 ZB HR3.out (HIX.out _).1 (HIX.out _).2.1 (HIX.out _).2.2 ?_))
    refine fin_ct (w.heap.size + 1) 27 ((readX d q).1.map B).toArray (.int .i64 (readX d q).2) (by rfl) (by rfl) (by rfl) (by rfl) Tryd.underlying27 (by rfl) (HIX.out _).1 (ArrKit.Bk.row HR3.out _) ?_
    exact ⟨rfl, ArrKit.Fr.row HF3.out _ _ (.inl (by omega))⟩

set_option maxHeartbeats 2000000 in
set_option maxRecDepth 100000 in
theorem rmrread_calls (p : Nat) (d : Dk) (sa : Option Addr) (sc : Nat) (ca : Option Addr) (cc : Nat) (m : Rm) (a : Option Addr) (c : Nat) (n : Int) (w : World) (hok : d.ok) (hv : DAt w p d sa sc ca cc) (hm : m.ok) (hr : RV w m a c) (hn : (Lit.int .i64 n).wf = true) : Calls Tryd.prog 23 #[.pointer (some ⟨p, 0, none⟩), .agg (rval m a c), .int .i64 n] w fun e w' => e = .returned (readV (rdX d m n)) ∧ Fr0 w w' := by
  have hz := zero_bl
  have hs1 : (w.alloc (.cells (rval m a c) 24)).heap.size = w.heap.size + 1 := by simp
  have HX : Hid (Bk ((w.alloc (.cells (rval m a c) 24)).alloc (.cells ZB 27)) w.heap.size (rval m a c) 24) := Lib.hid (Bk.alloc (Bk.new w _) _)
  have HR : Hid (Bk ((w.alloc (.cells (rval m a c) 24)).alloc (.cells ZB 27)) (w.heap.size + 1) ZB 27) := Lib.hid (by have := Bk.new (w.alloc (.cells (rval m a c) 24)) (.cells ZB 27); rwa [hs1] at this)
  have HF : Hid (Fr0 w ((w.alloc (.cells (rval m a c) 24)).alloc (.cells ZB 27))) := Lib.hid (Fr.alloc (Fr.alloc (Fr.refl _ _) _) _)
  have HAS : Hid (∀ W, Fr0 w W → Calls Tryd.prog 44 #[.agg (dval d sa sc ca cc), .agg (rval m a c), .int .i64 n] W fun e w' => e = .returned (.bool (askedB d m n)) ∧ Fr0 W w') := Lib.hid (fun W f => rasked_calls d sa sc ca cc m a c n W hok (hv.v.keep f) hm (hr.keep f) hn)
  have HIN : Hid ((Tryd.prog.info? 24).map (·.size) = some (rval m a c).size) := Lib.hid (info_r _ _)
  have HIX : Hid (∀ q, (Tryd.prog.info? 27).map (·.size) = some ((readX d q).1.map B).toArray.size ∧ ZB.size = ((readX d q).1.map B).toArray.size ∧ ((readX d q).1.map B).toArray.all (·.oneCell') = true) := Lib.hid (fun q => ⟨info_l (readX_len hok q), size_l (readX_len hok q), one_l _⟩)
  have HRE : Hid (∀ W q, Fr0 w W → Calls Tryd.prog 45 #[.pointer (some ⟨p, 0, none⟩), .int .i64 q] W fun e w' => e = .returned (.tuple #[.agg ((readX d q).1.map B).toArray, .int .i64 (readX d q).2]) ∧ Fr0 W w') := Lib.hid (fun W q f => DiskRRead.rread_calls p q d sa sc ca cc W hok (hv.keep f))
  have HAT : Hid (∀ W, m.ps.length ≤ 20 → Fr0 w W → Calls Tryd.prog 16 #[.agg (rval m a c), .int .i64 n] W fun e w' => e = .returned (.int .i64 (atI m n)) ∧ Fr0 W w') := Lib.hid (fun W h f => rat_calls m a c n W (hr.keep f) (by omega))
  have HTL : askedB d m n = true → m.ps.length ≤ 20 := fun h => by
    unfold askedB at h
    rw [Bool.and_eq_true] at h
    exact tab_len h.2
  have HBV := Lib.hid hv
  unfold rdX readV
  clear hok hm hr hn hs1
  generalize rval m a c = X at *
  cases hask : askedB d m n with
  | false =>
    rw [hask] at HAS
    clear hask HTL
    rw [if_neg (by simp)]
    go_enter Tryd.func23, Tryd.ntmps23
    go_wp2
    refine wp_region_noPanic ?_
    refine wp_region_held_drew (S := (fun W : World => Bk W w.heap.size X 24 ∧ Bk W (w.heap.size + 1) ZB 27 ∧ Fr0 w W)) (by kernel_rfl) (⟨HX.out, HR.out, Fr.drew HF.out⟩) (fun hHeld0 => ?_)
    refine tk0 (i := 0) (v := .pointer (some ⟨p, 0, none⟩)) rfl hHeld0 ?_
    simp only [Act.put, zA, zB, zC, zD, zE, zF]
    refine tk0 (i := 1) (v := .pointer (some ⟨p, 0, none⟩)) rfl hHeld0 ?_
    simp only [Act.put, zA, zB, zC, zD, zE, zF]
    refine tk (i := 2) (v := .agg (dval d sa sc ca cc)) rfl (yields_row (by kernel_rfl) 39 _ rfl (p) rfl 39 (dval d sa sc ca cc) (0, 0) _ (fun W h => (HBV.out.keep h.2.2).blk) Tryd.underlying39 rfl info_d) hHeld0 ?_
    simp only [Act.put, zA, zB, zC, zD, zE, zF]
    refine tk (i := 3) (v := .agg X) rfl (yields_row (by kernel_rfl) 24 _ rfl (w.heap.size) rfl 24 X (0, 0) _ (fun W h => h.1) Tryd.underlying24 rfl HIN.out) hHeld0 ?_
    simp only [Act.put, zA, zB, zC, zD, zE, zF]
    refine tk0 (i := 4) (v := .int .i64 n) rfl hHeld0 ?_
    simp only [Act.put, zA, zB, zC, zD, zE, zF]
    change wpAnyH _ _ _ _ _ 2 #[true, true, true, true, true, false, false] _ _
    refine wpAnyH_ready (rs := [5]) (by kernel_rfl) (by simp) ?_
    refine AllReadyH.cons rfl (fun K hK => ?_) AllReadyH.nil
    simp only [zA, zB, zC]
    refine (if_pos (by kernel_rfl)).mpr ?_
    go_wp2_with fail
    refine (HAS.out _ (hHeld0).2.2).mono ?_
    rintro e wx0 ⟨rfl, hfx0⟩
    dsimp only
    refine hK.out _ _ (⟨hfx0.keep (hHeld0).1 (fun h => h), hfx0.keep (hHeld0).2.1 (fun h => h), (hHeld0).2.2.then0 hfx0⟩) (fun hHeld1 => ?_)
    clear hK K hHeld0
    refine tk (i := 6) (v := .bool true) rfl (Or.inl ⟨by kernel_rfl, fun w hSw => by go_simp <;> (first | exact beq_iff_eq.1 (by assumption) | exact beq_eq_false_iff_ne.1 (by assumption) | omega)⟩) hHeld1 ?_
    simp only [Act.put, zA, zB, zC, zD, zE, zF]
    change wpAnyH _ _ _ _ _ 0 #[true, true, true, true, true, true, true] _ _
    refine wpAnyH_done (by kernel_rfl) ?_ _
    refine NoPanic.normal ?_
    have HEND := Lib.hid hHeld1
    clear hHeld1
    have HF1 : Hid (Fr0 w wx0) := Lib.hid HEND.out.2.2
    have HX1 : Hid (Bk wx0 w.heap.size X 24) := Lib.hid HEND.out.1
    have HR1 : Hid (Bk wx0 (w.heap.size + 1) ZB 27) := Lib.hid HEND.out.2.1
    go_wp2_with (first | ((with_reducible show wpList _ _ _ ({ dst := _, op := Op.build 27 _, type := _, pos := _, after := _, guard := _ } :: _) _ _); refine build_ev rfl 27 _ rfl [] (by simp) ZB built_zb ?_) | ((with_reducible show wpList _ _ _ ({ dst := _, op := Op.store 27 _ _, type := _, pos := _, after := _, guard := _ } :: _) _ _); refine wpList_store_row rfl 27 _ _ rfl (w.heap.size + 1) ZB rfl rfl 27 ZB HR1.out info_zb rfl ZB_one ?_))
    refine fin_ct (w.heap.size + 1) 27 ZB (.int .i64 1) (by rfl) (by rfl) (by rfl) (by rfl) Tryd.underlying27 (by rfl) info_zb (ArrKit.Bk.row HR1.out _) ?_
    exact ⟨rfl, ArrKit.Fr.row HF1.out _ _ (.inl (by omega))⟩
  | true =>
    have hlen := HTL hask
    rw [hask] at HAS
    clear hask HTL
    rw [if_pos rfl]
    generalize atI m n = q at *
    go_enter Tryd.func23, Tryd.ntmps23
    go_wp2
    refine wp_region_noPanic ?_
    refine wp_region_held_drew (S := (fun W : World => Bk W w.heap.size X 24 ∧ Bk W (w.heap.size + 1) ZB 27 ∧ Fr0 w W)) (by kernel_rfl) (⟨HX.out, HR.out, Fr.drew HF.out⟩) (fun hHeld0 => ?_)
    refine tk0 (i := 0) (v := .pointer (some ⟨p, 0, none⟩)) rfl hHeld0 ?_
    simp only [Act.put, zA, zB, zC, zD, zE, zF]
    refine tk0 (i := 1) (v := .pointer (some ⟨p, 0, none⟩)) rfl hHeld0 ?_
    simp only [Act.put, zA, zB, zC, zD, zE, zF]
    refine tk (i := 2) (v := .agg (dval d sa sc ca cc)) rfl (yields_row (by kernel_rfl) 39 _ rfl (p) rfl 39 (dval d sa sc ca cc) (0, 0) _ (fun W h => (HBV.out.keep h.2.2).blk) Tryd.underlying39 rfl info_d) hHeld0 ?_
    simp only [Act.put, zA, zB, zC, zD, zE, zF]
    refine tk (i := 3) (v := .agg X) rfl (yields_row (by kernel_rfl) 24 _ rfl (w.heap.size) rfl 24 X (0, 0) _ (fun W h => h.1) Tryd.underlying24 rfl HIN.out) hHeld0 ?_
    simp only [Act.put, zA, zB, zC, zD, zE, zF]
    refine tk0 (i := 4) (v := .int .i64 n) rfl hHeld0 ?_
    simp only [Act.put, zA, zB, zC, zD, zE, zF]
    change wpAnyH _ _ _ _ _ 2 #[true, true, true, true, true, false, false] _ _
    refine wpAnyH_ready (rs := [5]) (by kernel_rfl) (by simp) ?_
    refine AllReadyH.cons rfl (fun K hK => ?_) AllReadyH.nil
    simp only [zA, zB, zC]
    refine (if_pos (by kernel_rfl)).mpr ?_
    go_wp2_with fail
    refine (HAS.out _ (hHeld0).2.2).mono ?_
    rintro e wx0 ⟨rfl, hfx0⟩
    dsimp only
    refine hK.out _ _ (⟨hfx0.keep (hHeld0).1 (fun h => h), hfx0.keep (hHeld0).2.1 (fun h => h), (hHeld0).2.2.then0 hfx0⟩) (fun hHeld1 => ?_)
    clear hK K hHeld0
    refine tk (i := 6) (v := .bool false) rfl (Or.inl ⟨by kernel_rfl, fun w hSw => by go_simp <;> (first | exact beq_iff_eq.1 (by assumption) | exact beq_eq_false_iff_ne.1 (by assumption) | omega)⟩) hHeld1 ?_
    simp only [Act.put, zA, zB, zC, zD, zE, zF]
    change wpAnyH _ _ _ _ _ 0 #[true, true, true, true, true, true, true] _ _
    refine wpAnyH_done (by kernel_rfl) ?_ _
    refine NoPanic.normal ?_
    have HEND := Lib.hid hHeld1
    clear hHeld1
    have HF1 : Hid (Fr0 w wx0) := Lib.hid HEND.out.2.2
    have HX1 : Hid (Bk wx0 w.heap.size X 24) := Lib.hid HEND.out.1
    have HR1 : Hid (Bk wx0 (w.heap.size + 1) ZB 27) := Lib.hid HEND.out.2.1
    go_wp2_with (first | ((with_reducible show wpList _ _ _ ({ dst := _, op := Op.load 24 _, type := _, pos := _, after := _, guard := _ } :: _) _ _); refine wpList_load_row_g (by rfl) 24 _ rfl w.heap.size rfl 24 X (0, 0) _ HX1.out Tryd.underlying24 rfl HIN.out ?_) | (go_at_call 16; (with_reducible refine (HAT.out _ hlen HF1.out).mono ?_); rintro e w2 ⟨rfl, hf2⟩; have HF2 := Lib.hid (HF1.out.then0 hf2); have HR2 := Lib.hid (hf2.keep HR1.out (fun h => h)); clear hf2) | (go_at_call 45; (with_reducible refine (HRE.out _ _ HF2.out).mono ?_); rintro e w3 ⟨rfl, hf3⟩; have HF3 := Lib.hid (HF2.out.then0 hf3); have HR3 := Lib.hid (hf3.keep HR2.out (fun h => h)); clear hf3) | ((with_reducible show wpList _ _ _ ({ dst := _, op := Op.store 27 _ _, type := _, pos := _, after := _, guard := _ } :: _) _ _); refine wpList_store_row rfl 27 _ _ rfl (w.heap.size + 1) ((readX d q).1.map B).toArray rfl rfl 27 ZB HR3.out (HIX.out _).1 (HIX.out _).2.1 (HIX.out _).2.2 ?_))
    refine fin_ct (w.heap.size + 1) 27 ((readX d q).1.map B).toArray (.int .i64 (readX d q).2) (by rfl) (by rfl) (by rfl) (by rfl) Tryd.underlying27 (by rfl) (HIX.out _).1 (ArrKit.Bk.row HR3.out _) ?_
    exact ⟨rfl, ArrKit.Fr.row HF3.out _ _ (.inl (by omega))⟩

end Go.Proofs.YtlleandelcjhjaaDoor.RmReads
