/- The theorems that the claim uses, text behind text (part 25). -/
import Derived.Test.YtlleandelcjhjaaDoorZan
import Derived.Test.YtlleandelcjhjaaDoorZax
import Derived.WalkMore
set_option maxRecDepth 100000
set_option linter.unusedVariables false
set_option linter.unusedSimpArgs false
namespace Go.Proofs.YtlleandelcjhjaaDoor.RmLoad
open Go Go.RowKit Go.Proofs.YtlleandelcjhjaaDoor.K Go.Proofs.YtlleandelcjhjaaDoor.EqKit Go.Proofs.YtlleandelcjhjaaDoor.ArrKit Go.Proofs.YtlleandelcjhjaaDoor.HeldKit Go.Proofs.YtlleandelcjhjaaDoor.GKit Go.Proofs.YtlleandelcjhjaaDoor.GRow Go.Proofs.YtlleandelcjhjaaDoor.DiskKit Go.Proofs.YtlleandelcjhjaaDoor.RmKit Go.Proofs.YtlleandelcjhjaaDoor.MapKit Go.Proofs.YtlleandelcjhjaaDoor.RmRight Go.Proofs.YtlleandelcjhjaaDoor.RmRRight Go.Proofs.YtlleandelcjhjaaDoor.RmTab Go.Proofs.YtlleandelcjhjaaDoor.RmPut Go.Proofs.YtlleandelcjhjaaDoor.RmAsk Go.Proofs.YtlleandelcjhjaaDoor.RmSame Go.Proofs.YtlleandelcjhjaaDoor.DiskRRead Go.Proofs.YtlleandelcjhjaaDoor.RmRead Go.Proofs.YtlleandelcjhjaaDoor.RmReads Go.Proofs.YtlleandelcjhjaaDoor.RmTake Go.Proofs.YtlleandelcjhjaaDoor.RmPair Go.Proofs.YtlleandelcjhjaaDoor.RmLoadX
/-- the best one so far, as the walk holds it -/
def Best (o : Option Rm) (f : Bool) (m : Rm) : Prop := (o = none ∧ f = false ∧ m = ⟨0, []⟩) ∨ (o = some m ∧ f = true)
theorem best_not {o c : Option Rm} {f : Bool} {m : Rm} (h : Best o f m) (hc : c = none) : Best (newer o c) f m := by subst hc; exact h
theorem best_old {o c : Option Rm} {m x : Rm} (h : Best o true m) (hc : c = some x) (hg : x.gen ≤ m.gen) : Best (newer o c) true m := by
  subst hc
  rcases h with ⟨-, h, -⟩ | ⟨h, -⟩
  · cases h
  · subst h; rw [newer_le hg]; exact .inr ⟨rfl, rfl⟩
theorem best_new {o c : Option Rm} {m x : Rm} (h : Best o true m) (hc : c = some x) (hg : ¬ x.gen ≤ m.gen) : Best (newer o c) true x := by
  subst hc
  rcases h with ⟨-, h, -⟩ | ⟨h, -⟩
  · cases h
  · subst h; rw [newer_gt (by omega)]; exact .inr ⟨rfl, rfl⟩
theorem best_first {o c : Option Rm} {m x : Rm} (h : Best o false m) (hc : c = some x) : Best (newer o c) true x := by
  subst hc
  rcases h with ⟨h, -, -⟩ | ⟨-, h⟩
  · subst h; rw [newer_first]; exact .inr ⟨rfl, rfl⟩
  · cases h
theorem best_end {o : Option Rm} {f : Bool} {m : Rm} (h : Best o f m) : (match o with | none => ((⟨0, []⟩ : Rm), (2 : Int)) | some m => (m, 0)) = if f = true then (m, 0) else (⟨0, []⟩, 2) := by
  rcases h with ⟨rfl, rfl, rfl⟩ | ⟨rfl, rfl⟩ <;> rfl
theorem tak_gen {l : List UInt8} {s : Int} (h : takE l s = 0) : 0 ≤ (takX l s).gen := by
  unfold takX
  split
  · exact Int.natCast_nonneg _
  · exact Int.le_refl _
set_option maxHeartbeats 2000000 in
set_option maxRecDepth 100000 in
theorem load_calls (p : Nat) (d : Dk) (sa : Option Addr) (sc : Nat) (ca : Option Addr) (cc : Nat) (w : World) (hok : d.ok) (hv : DAt w p d sa sc ca cc) (hsh : Sh w) : Calls Tryd.prog 29 #[.pointer (some ⟨p, 0, none⟩)] w fun e w' => ∃ a c, e = .returned (.tuple #[.agg (rval (loadX d).1 a c), .int .i64 (loadX d).2]) ∧ RV w' (loadX d).1 a c ∧ Fr0 w w' := by
  have HX1 : Hid (Bk (w.alloc (.cells RZ 24)) w.heap.size RZ 24) := Lib.hid (Bk.new w _)
  have HF1 : Hid (Fr0 w (w.alloc (.cells RZ 24))) := Lib.hid (Fr.alloc (Fr.refl _ _) _)
  have HHV : Hid (∀ W, Fr0 w W → Calls Tryd.prog 57 #[.pointer (some ⟨p, 0, none⟩)] W fun e w' => e = .returned (.int .i64 (hvI d)) ∧ Fr0 W w') := Lib.hid (fun W f => halves_calls p d sa sc ca cc W hok (hv.keep f))
  have HC0 : Hid (∀ W, Fr0 w W → W.cell? ⟨p, 0, none⟩ = some (.slice sa d.S.length sc)) := Lib.hid (fun W f => Bk.cell (hv.keep f).blk 0)
  have HC3 : Hid (∀ W, Fr0 w W → W.cell? ⟨p, 3, none⟩ = some (.bool d.down)) := Lib.hid (fun W f => Bk.cell (hv.keep f).blk 3)
  have HIN : Hid (∀ g v, (Tryd.prog.info? 24).map (·.size) = some (RC g v).size) := Lib.hid (fun _ _ => info_r _ _)
  have HRE : Hid (∀ x W, Fr0 w W → Calls Tryd.prog 43 #[.pointer (some ⟨p, 0, none⟩), .int .i64 x] W fun e w' => e = .returned (readV (readX d x)) ∧ Fr0 W w') := Lib.hid (fun x W f => DiskRead.read_calls p x d sa sc ca cc W hok (hv.keep f))
  have hws : (Lit.int .i64 (d.S.length : Int)).wf = true := wf_nat (Nat.le_trans hv.v.sn hv.v.sm)
  have HTA : Hid (∀ l W, l.length = 128 → Fr0 w W → Calls Tryd.prog 27 #[.agg (l.map B).toArray, .int .i64 (d.S.length : Int)] W fun e w' => ∃ a c, e = .returned (.tuple #[.agg (rval (takX l (d.S.length : Int)) a c), .int .i64 (takE l (d.S.length : Int))]) ∧ RV w' (takX l (d.S.length : Int)) a c ∧ Fr0 W w') := Lib.hid (fun l W h f => RmTake.take_calls l _ W h hws (hsh.keep0 f))
  have HLR : Hid (∀ x, (readX d x).1.length = 128) := Lib.hid (fun x => readX_len hok x)
  have hzr := zero_r
  have hzb := zero_bl
  have hrg := hvI_range d
  have hs1 : (w.alloc (.cells RZ 24)).heap.size = w.heap.size + 1 := by simp
  have HPW : Hid (p < w.heap.size) := Lib.hid (Bk.lt hv.blk)
  clear hok hv hsh hws
  by_cases h0 : hvI d = 0
  · have hx : loadX d = (⟨0, []⟩, 1) := by unfold loadX; rw [if_pos h0]
    rw [hx]
    rw [h0] at HHV
    clear h0 hrg
    go_enter Tryd.func29, Tryd.ntmps29
    go_wp2
    go_step3
    go_wp2_with (first | (go_at_call 57; (with_reducible refine (HHV.out _ HF1.out).mono ?_); rintro e w2 ⟨rfl, hf2⟩; have HF2 := Lib.hid (HF1.out.then0 hf2); have HX2 := Lib.hid (hf2.keep HX1.out (fun h => h)); have c3 := HC3.out _ HF2.out; clear hf2) | ((with_reducible show wpList _ _ _ ({ dst := _, op := Op.build 24 _, type := _, pos := _, after := _, guard := _ } :: _) _ _); refine build_ev rfl 24 _ rfl [] (by simp) RZ RmTake.built_rz ?_) | ((with_reducible show wpList _ _ _ ({ dst := _, op := Op.store 24 _ _, type := _, pos := _, after := _, guard := _ } :: _) _ _); refine wpList_store_row rfl 24 _ _ rfl w.heap.size RZ rfl rfl 24 RZ HX2.out (HIN.out _ _) rfl (RC_all _ _ _ _) ?_))
    try rw [Exit.noGoto_ret]
    refine fin_ct w.heap.size 24 RZ (.int .i64 1) (by rfl) (by rfl) (by rfl) (by rfl) Tryd.underlying24 (by rfl) (HIN.out _ _) (ArrKit.Bk.row HX2.out _) ?_
    exact ⟨none, 0, rfl, RmTake.rv_none _, ArrKit.Fr.row HF2.out _ _ (.inl (by omega))⟩
  cases hd : d.down with
  | true =>
    have hx : loadX d = (⟨0, []⟩, 3) := by unfold loadX; rw [if_neg h0, if_pos hd]
    rw [hx]
    rw [hd] at HC3
    generalize hvI d = h at *
    have h0b : (h == 0) = false := by simpa using h0
    clear hd hx
    go_enter Tryd.func29, Tryd.ntmps29
    go_wp2
    go_step3
    go_wp2_with (first | (go_at_call 57; (with_reducible refine (HHV.out _ HF1.out).mono ?_); rintro e w2 ⟨rfl, hf2⟩; have HF2 := Lib.hid (HF1.out.then0 hf2); have HX2 := Lib.hid (hf2.keep HX1.out (fun h => h)); have c3 := HC3.out _ HF2.out; clear hf2) | ((with_reducible show wpList _ _ _ ({ dst := _, op := Op.build 24 _, type := _, pos := _, after := _, guard := _ } :: _) _ _); refine build_ev rfl 24 _ rfl [] (by simp) RZ RmTake.built_rz ?_) | ((with_reducible show wpList _ _ _ ({ dst := _, op := Op.store 24 _ _, type := _, pos := _, after := _, guard := _ } :: _) _ _); refine wpList_store_row rfl 24 _ _ rfl w.heap.size RZ rfl rfl 24 RZ HX2.out (HIN.out _ _) rfl (RC_all _ _ _ _) ?_))
    try rw [Exit.noGoto_ret]
    refine fin_ct w.heap.size 24 RZ (.int .i64 3) (by rfl) (by rfl) (by rfl) (by rfl) Tryd.underlying24 (by rfl) (HIN.out _ _) (ArrKit.Bk.row HX2.out _) ?_
    exact ⟨none, 0, rfl, RmTake.rv_none _, ArrKit.Fr.row HF2.out _ _ (.inl (by omega))⟩
  | false =>
    have HLX : Hid (∀ f m, Best (bestOf d 4) f m → loadX d = if f = true then (m, 0) else (⟨0, []⟩, 2)) := Lib.hid (fun f m h => by
      unfold loadX; rw [if_neg h0, if_neg (by rw [hd]; decide), ← best_end h]; cases bestOf d 4 <;> rfl)
    rw [hd] at HC3
    have HBS : Hid (bestOf d 0 = none ∧ ∀ k, bestOf d (k + 1) = newer (bestOf d k) (cand d k)) := Lib.hid ⟨rfl, fun k => rfl⟩
    have HCA : Hid (∀ k, cand d k = if (readX d ((k / 2 : Nat) * hvI d + (k % 2 : Nat))).2 = 0 ∧ takE (readX d ((k / 2 : Nat) * hvI d + (k % 2 : Nat))).1 (d.S.length : Int) = 0 ∧ (takX (readX d ((k / 2 : Nat) * hvI d + (k % 2 : Nat))).1 (d.S.length : Int)).gen % 2 = (k % 2 : Nat) then some (takX (readX d ((k / 2 : Nat) * hvI d + (k % 2 : Nat))).1 (d.S.length : Int)) else none) := Lib.hid (fun k => rfl)
    generalize hvI d = h at *
    obtain ⟨hn, rfl⟩ : ∃ n : Nat, h = n := ⟨h.toNat, by omega⟩
    have h0b : ((hn : Int) == 0) = false := by simpa using h0
    clear hd
    go_enter Tryd.func29, Tryd.ntmps29
    go_wp2
    go_step3
    go_wp2_with (first | (go_at_call 57; (with_reducible refine (HHV.out _ HF1.out).mono ?_); rintro e w2 ⟨rfl, hf2⟩; have HF2 := Lib.hid (HF1.out.then0 hf2); have HX2 := Lib.hid (hf2.keep HX1.out (fun h => h)); have c3 := HC3.out _ HF2.out; clear hf2))
    go_step3
    go_wp2
    have HX3 : Hid (Bk (w2.alloc (.cells RZ 24)) w.heap.size RZ 24) := Lib.hid (Bk.alloc HX2.out _)
    have HY3 : Hid (Bk (w2.alloc (.cells RZ 24)) w2.heap.size RZ 24) := Lib.hid (Bk.new w2 _)
    have HF3 : Hid (Fr0 w (w2.alloc (.cells RZ 24))) := Lib.hid (Fr.alloc HF2.out _)
    have hxy : w.heap.size < w2.heap.size := Bk.lt HX2.out
    clear HX2 HF2 c3
    generalize w2.heap.size = y at *
    generalize w2.alloc (.cells RZ 24) = w3 at *
    trace "GOAL0"
    go_loopw [23, 6] (fun jj ff W => ∃ (k : Nat) (f : Bool) (m : Rm) (a : Option Addr) (c : Nat), k ≤ 4 ∧ jj = .int .i64 k ∧ ff = .bool f ∧ Best (bestOf d k) f m ∧ Bk W w.heap.size RZ 24 ∧ Bk W y (rval m a c) 24 ∧ RV W m a c ∧ Fr0 w W) (fun jj _ _ => 4 - (intOf jj).toNat)
    case atStart => exact ⟨0, false, ⟨0, []⟩, none, 0, by omega, rfl, rfl, .inl ⟨HBS.out.1, rfl, rfl⟩, HX3.out, HY3.out, RmTake.rv_none _, HF3.out⟩
    case round =>
      obtain ⟨k, f, m, a, c, hk, rfl, rfl, hb, hx, hy, hr, hF⟩ := hrel
      have HB := Lib.hid hb
      have HX := Lib.hid hx
      have HY := Lib.hid hy
      have HR := Lib.hid hr
      have HF := Lib.hid hF
      clear hb hx hy hr hF
      by_cases hk4 : k < 4
      · have HK := Lib.hid hk4
        obtain ⟨kq, hkq⟩ : ∃ q : Nat, k / 2 = q := ⟨_, rfl⟩
        obtain ⟨kr, hkr⟩ : ∃ q : Nat, k % 2 = q := ⟨_, rfl⟩
        have hq1 : Int.tdiv (k : Int) 2 = (kq : Int) := by rw [← hkq]; rfl
        have hr1 : Int.tmod (k : Int) 2 = (kr : Int) := by rw [← hkr]; rfl
        have hmu : (kq : Int) * (hn : Int) ≤ 2038 ∧ 0 ≤ (kq : Int) * (hn : Int) := by
          have : kq = 0 ∨ kq = 1 := by omega
          rcases this with rfl | rfl <;> omega
        have hw1 : IntKind.i64.wrap ((kq : Int) * (hn : Int)) = (kq : Int) * (hn : Int) := wr_i _ (by omega) (by omega)
        obtain ⟨xs, hxs⟩ : ∃ x, (kq : Int) * (hn : Int) + (kr : Int) = x := ⟨_, rfl⟩
        have hw2 : IntKind.i64.wrap ((kq : Int) * (hn : Int) + (kr : Int)) = xs := by rw [← hxs]; exact wr_i _ (by omega) (by omega)
        have HCK := Lib.hid (HCA.out k)
        have HBK := Lib.hid (HBS.out.2 k)
        rw [hkq, hkr, hxs] at HCK
        have HRX := Lib.hid (HRE.out xs)
        have hlr := HLR.out xs
        clear hxs
        unfold readV at HRX
        try simp only at HRX
        obtain ⟨l, hl⟩ : ∃ l, (readX d xs).1 = l := ⟨_, rfl⟩
        obtain ⟨e1, he1⟩ : ∃ l, (readX d xs).2 = l := ⟨_, rfl⟩
        rw [hl, he1] at HCK HRX
        rw [hl] at hlr
        have HIL := Lib.hid (info_l hlr)
        have HSL := Lib.hid (size_l hlr)
        have HOL := Lib.hid (one_l l)
        have HTK := Lib.hid (fun W => HTA.out l W hlr)
        clear hl he1 hlr
        generalize (l.map B).toArray = LB at *
        obtain ⟨X, hX⟩ : ∃ z, takX l (d.S.length : Int) = z := ⟨_, rfl⟩
        obtain ⟨e2, he2⟩ : ∃ z, takE l (d.S.length : Int) = z := ⟨_, rfl⟩
        rw [hX, he2] at HCK HTK
        by_cases hE1 : e1 = 0
        · have hE1b : (e1 != 0) = false := by simpa using hE1
          have HCK1 : Hid (cand d k = if e2 = 0 ∧ X.gen % 2 = (kr : Int) then some X else none) := Lib.hid (by rw [HCK.out, hE1]; simp)
          have HG0 : Hid (e2 = 0 → 0 ≤ X.gen) := Lib.hid (by rw [← hX, ← he2]; exact tak_gen)
          clear hX he2 HCK hE1
          have c0 := fun W h => HC0.out W h
          go_wp2_with (first | (go_at_call 43; (with_reducible refine (HRX.out _ HF.out).mono ?_); rintro e w4 ⟨rfl, hf4⟩; have HZ4 := Lib.hid (Bk.new w4 (.cells ZB 27)); have hfx : Fr0 wr ((w4.alloc (.cells ZB 27)).setRow w4.heap.size LB) := hf4.then0 (ArrKit.Fr.row (Fr.alloc (Fr.refl _ _) _) _ _ (.inl (Nat.le_refl _))); have HX5 := Lib.hid (hfx.keep HX.out (fun h => h)); have HY5 := Lib.hid (hfx.keep HY.out (fun h => h)); have HR5 := Lib.hid (HR.out.keep hfx); have HF5 := Lib.hid (HF.out.then0 hfx); have HB5 : Hid (Bk ((w4.alloc (.cells ZB 27)).setRow w4.heap.size LB) w4.heap.size LB 27) := Lib.hid (ArrKit.Bk.row HZ4.out _); clear hf4 hfx) | ((with_reducible show wpList _ _ _ ({ dst := _, op := Op.store 27 _ _, type := _, pos := _, after := _, guard := _ } :: _) _ _); refine wpList_store_row rfl 27 _ _ rfl w4.heap.size LB rfl rfl 27 ZB HZ4.out HIL.out HSL.out HOL.out ?_))
          have HQ4 : Hid (w4.heap.size < (((w4.alloc (.cells ZB 27)).setRow w4.heap.size LB)).heap.size) := Lib.hid (Bk.lt HB5.out)
          clear HZ4
          generalize ((w4.alloc (.cells ZB 27)).setRow w4.heap.size LB) = w5 at *
          generalize w4.heap.size = q4 at *
          rename_i K hKA
          have HREST : Hid (∀ (w6 : World) (g6 : Nat) (a6 : Option Addr) (c6 : Nat), Fr0 w5 w6 → Bk w6 g6 (rval X a6 c6) 24 → RV w6 X a6 c6 → w5.heap.size ≤ g6 → K { tmps := #[Value.pointer (some ⟨p, 0, none⟩), undef, Value.pointer (some ⟨w.heap.size, 0, none⟩), Value.int IntKind.i64 0, Value.int IntKind.i64 ↑hn, Value.pointer (some ⟨y, 0, none⟩), Value.bool f, Value.int IntKind.i64 ↑k, Value.pointer (some ⟨q4, 0, none⟩), .int .i64 e2, .pointer (some ⟨g6, 0, none⟩), Value.pointer (some ⟨p, 0, none⟩), Value.int IntKind.i64 ↑hn, Value.bool false, Value.int IntKind.i64 ↑hn, Value.bool false, undef, Value.bool false, Value.pointer (some ⟨p, 0, none⟩), Value.pointer (some ⟨p, 0, none⟩), Value.pointer (some ⟨p, 3, none⟩), Value.bool false, undef, Value.int IntKind.i64 ↑k, Value.bool true, Value.int IntKind.i64 ↑k, Value.tuple #[Value.agg LB, Value.int IntKind.i64 e1], Value.pointer (some ⟨p, 0, none⟩), Value.int IntKind.i64 ↑k, Value.int IntKind.i64 ↑kq, Value.int IntKind.i64 ↑hn, Value.int IntKind.i64 (↑kq * ↑hn), Value.int IntKind.i64 ↑k, Value.int IntKind.i64 ↑kr, Value.int IntKind.i64 xs, Value.tuple #[Value.agg LB, Value.int IntKind.i64 e1], Value.agg LB, Value.int IntKind.i64 e1, Value.int IntKind.i64 e1, Value.bool false, .tuple #[.agg (rval X a6 c6), .int .i64 e2], .agg LB, .pointer (some ⟨p, 0, none⟩), .pointer (some ⟨p, 0, none⟩), .pointer (some ⟨p, 0, none⟩), .slice sa d.S.length sc, .int .i64 (d.S.length : Int), .tuple #[.agg (rval X a6 c6), .int .i64 e2], .agg (rval X a6 c6), .int .i64 e2, u50, u51, u52, u53, u54, u55, u56, u57, u58, u59, u60, u61, u62, u63, u64, u65, u66, u67, u68, u69, u70, u71, undef, undef, undef, undef], defers := [] } w6) := Lib.hid (by
            intro w6 g6 a6 c6 hf hz hv hge
            refine hKA _ _ ?_
            have HX6 := Lib.hid (hf.keep HX5.out (fun h => h))
            have HY6 := Lib.hid (hf.keep HY5.out (fun h => h))
            have HR6 := Lib.hid (HR5.out.keep hf)
            have HF6 := Lib.hid (HF5.out.then0 hf)
            have HZ6 := Lib.hid hz
            have HV6 := Lib.hid hv
            have cg : w6.cell? ⟨g6, 0, none⟩ = some (.int .i64 X.gen) := Bk.cell hz 0
            have cy : w6.cell? ⟨y, 0, none⟩ = some (.int .i64 m.gen) := Bk.cell HY6.out 0
            clear hf hz hv hge
            by_cases hE2 : e2 = 0
            · have hE2b : (e2 != 0) = false := by simpa using hE2
              have hg0 := HG0.out hE2
              have hxt : Int.tmod X.gen 2 = X.gen % 2 := Int.tmod_eq_emod_of_nonneg hg0
              obtain ⟨xr, hxr⟩ : ∃ z, X.gen % 2 = z := ⟨_, rfl⟩
              rw [hxr] at hxt
              by_cases hP : xr = (kr : Int)
              · have hPb : (xr != (kr : Int)) = false := by simpa using hP
                have hcx : cand d k = some X := by rw [HCK1.out, if_pos ⟨hE2, hxr.trans hP⟩]
                clear hxr hP hE2 hg0
                cases f with
                | false =>
                  have hbn := best_first HB.out hcx
                  rw [← HBK.out] at hbn
                  have HBN := Lib.hid hbn
                  clear hbn
                  clear hcx
                  go_wp2_with (first | ((with_reducible show wpList _ _ _ ({ dst := _, op := Op.load 24 _, type := _, pos := _, after := _, guard := _ } :: _) _ _); refine wpList_load_row_g (by rfl) 24 _ rfl g6 rfl 24 _ (0, 0) _ HZ6.out Tryd.underlying24 rfl (HIN.out _ _) ?_) | ((with_reducible show wpList _ _ _ ({ dst := _, op := Op.store 24 _ _, type := _, pos := _, after := _, guard := _ } :: _) _ _); refine wpList_store_row rfl 24 _ _ rfl y (rval X a6 c6) rfl rfl 24 _ HY6.out (HIN.out _ _) rfl (RC_all _ _ _ _) ?_))
                  go_roundw
                  case rel => exact ⟨k + 1, true, X, a6, c6, by have := HK.out; omega, by go_num, rfl, HBN.out, ArrKit.Bk.rowOther HX6.out _ (by omega), ArrKit.Bk.row HY6.out _, RmPair.RV.pastR HV6.out (Fr.row1 _ _ _) HY6.out, ArrKit.Fr.row HF6.out _ _ (.inl (by omega))⟩
                  case measure => have := HK.out; simp [intOf]; omega
                | true =>
                  by_cases hL : X.gen ≤ m.gen
                  · have hLb : decide (X.gen ≤ m.gen) = true := decide_eq_true hL
                    have hbn := best_old HB.out hcx hL
                    rw [← HBK.out] at hbn
                    have HBN := Lib.hid hbn
                    clear hbn
                    clear hcx hL
                    go_wp2
                    go_roundw
                    case rel => exact ⟨k + 1, true, m, a, c, by have := HK.out; omega, by go_num, rfl, HBN.out, HX6.out, HY6.out, HR6.out, HF6.out⟩
                    case measure => have := HK.out; simp [intOf]; omega
                  · have hLb : decide (X.gen ≤ m.gen) = false := decide_eq_false hL
                    have hbn := best_new HB.out hcx hL
                    rw [← HBK.out] at hbn
                    have HBN := Lib.hid hbn
                    clear hbn
                    clear hcx hL
                    go_wp2_with (first | ((with_reducible show wpList _ _ _ ({ dst := _, op := Op.load 24 _, type := _, pos := _, after := _, guard := _ } :: _) _ _); refine wpList_load_row_g (by rfl) 24 _ rfl g6 rfl 24 _ (0, 0) _ HZ6.out Tryd.underlying24 rfl (HIN.out _ _) ?_) | ((with_reducible show wpList _ _ _ ({ dst := _, op := Op.store 24 _ _, type := _, pos := _, after := _, guard := _ } :: _) _ _); refine wpList_store_row rfl 24 _ _ rfl y (rval X a6 c6) rfl rfl 24 _ HY6.out (HIN.out _ _) rfl (RC_all _ _ _ _) ?_))
                    go_roundw
                    case rel => exact ⟨k + 1, true, X, a6, c6, by have := HK.out; omega, by go_num, rfl, HBN.out, ArrKit.Bk.rowOther HX6.out _ (by omega), ArrKit.Bk.row HY6.out _, RmPair.RV.pastR HV6.out (Fr.row1 _ _ _) HY6.out, ArrKit.Fr.row HF6.out _ _ (.inl (by omega))⟩
                    case measure => have := HK.out; simp [intOf]; omega
              · have hPb : (xr != (kr : Int)) = true := by simpa using hP
                have hcx : cand d k = none := by rw [HCK1.out, if_neg (fun h => hP (hxr.symm.trans h.2))]
                have hbn := best_not HB.out hcx
                rw [← HBK.out] at hbn
                have HBN := Lib.hid hbn
                clear hbn
                clear hcx hxr hP hE2 hg0
                go_wp2
                go_roundw
                case rel => exact ⟨k + 1, f, m, a, c, by have := HK.out; omega, by go_num, rfl, HBN.out, HX6.out, HY6.out, HR6.out, HF6.out⟩
                case measure => have := HK.out; simp [intOf]; omega
            · have hE2b : (e2 != 0) = true := by simpa using hE2
              have hcx : cand d k = none := by rw [HCK1.out, if_neg (fun h => hE2 h.1)]
              have hbn := best_not HB.out hcx
              rw [← HBK.out] at hbn
              have HBN := Lib.hid hbn
              clear hbn
              clear hcx hE2
              go_wp2
              go_roundw
              case rel => exact ⟨k + 1, f, m, a, c, by have := HK.out; omega, by go_num, rfl, HBN.out, HX6.out, HY6.out, HR6.out, HF6.out⟩
              case measure => have := HK.out; simp [intOf]; omega
            )
          clear hKA
          refine wp_region_noPanic ?_
          refine wp_region_held_drew (S := (fun W : World => Bk W q4 LB 27 ∧ Fr0 w5 W)) (by kernel_rfl) (⟨Fr.keep (S := fun _ => False) (Fr.drew (Fr.refl _ _)) HB5.out (fun h => h), Fr.drew (Fr.refl _ _)⟩) (fun hHeld0 => ?_)
          generalize w5.drew = wd at *
          change wpAnyH _ _ _ _ _ 13 #[false, false, false, false, false, false, false, false, false, false, false, false, false] _ _
          refine wpAnyH_take (i := 0) (v := .agg LB) rfl (by kernel_rfl) (by kernel_rfl) (by kernel_rfl) (fun _ _ _ h => h) (yields_row (by kernel_rfl) 27 _ rfl (q4) rfl 27 LB (0, 0) _ (fun W h => h.1) Tryd.underlying27 rfl HIL.out) hHeld0 ?_
          simp only [Act.put, List.getElem_toArray, List.getElem_cons_succ, List.getElem_cons_zero, List.setIfInBounds_toArray, List.set_cons_zero, List.set_cons_succ]
          change wpAnyH _ _ _ _ _ 12 #[true, false, false, false, false, false, false, false, false, false, false, false, false] _ _
          refine wpAnyH_take (i := 1) (v := .pointer (some ⟨p, 0, none⟩)) rfl (by kernel_rfl) (by kernel_rfl) (by kernel_rfl) (fun _ _ _ h => h) (Or.inl ⟨by kernel_rfl, fun w hSw => by first | kernel_rfl | (go_simp; done)⟩) hHeld0 ?_
          simp only [Act.put, List.getElem_toArray, List.getElem_cons_succ, List.getElem_cons_zero, List.setIfInBounds_toArray, List.set_cons_zero, List.set_cons_succ]
          change wpAnyH _ _ _ _ _ 11 #[true, true, false, false, false, false, false, false, false, false, false, false, false] _ _
          refine wpAnyH_take (i := 2) (v := .pointer (some ⟨p, 0, none⟩)) rfl (by kernel_rfl) (by kernel_rfl) (by kernel_rfl) (fun _ _ _ h => h) (Or.inl ⟨by kernel_rfl, fun w hSw => by first | kernel_rfl | (go_simp; done)⟩) hHeld0 ?_
          simp only [Act.put, List.getElem_toArray, List.getElem_cons_succ, List.getElem_cons_zero, List.setIfInBounds_toArray, List.set_cons_zero, List.set_cons_succ]
          change wpAnyH _ _ _ _ _ 10 #[true, true, true, false, false, false, false, false, false, false, false, false, false] _ _
          refine wpAnyH_take (i := 3) (v := .pointer (some ⟨p, 0, none⟩)) rfl (by kernel_rfl) (by kernel_rfl) (by kernel_rfl) (fun _ _ _ h => h) (Or.inl ⟨by kernel_rfl, fun w hSw => by first | kernel_rfl | (go_simp; done)⟩) hHeld0 ?_
          simp only [Act.put, List.getElem_toArray, List.getElem_cons_succ, List.getElem_cons_zero, List.setIfInBounds_toArray, List.set_cons_zero, List.set_cons_succ]
          change wpAnyH _ _ _ _ _ 9 #[true, true, true, true, false, false, false, false, false, false, false, false, false] _ _
          refine wpAnyH_take (i := 4) (v := .slice sa d.S.length sc) rfl (by kernel_rfl) (by kernel_rfl) (by kernel_rfl) (fun _ _ _ h => h) (Or.inl ⟨by kernel_rfl, fun w hSw => by have hcl := (fun _ h => HC0.out _ (HF5.out.then0 h.2)) w hSw; go_simp⟩) hHeld0 ?_
          simp only [Act.put, List.getElem_toArray, List.getElem_cons_succ, List.getElem_cons_zero, List.setIfInBounds_toArray, List.set_cons_zero, List.set_cons_succ]
          change wpAnyH _ _ _ _ _ 8 #[true, true, true, true, true, false, false, false, false, false, false, false, false] _ _
          refine wpAnyH_take (i := 5) (v := .int .i64 (d.S.length : Int)) rfl (by kernel_rfl) (by kernel_rfl) (by kernel_rfl) (fun _ _ _ h => h) (Or.inl ⟨by kernel_rfl, fun w hSw => by go_simp⟩) hHeld0 ?_
          simp only [Act.put, List.getElem_toArray, List.getElem_cons_succ, List.getElem_cons_zero, List.setIfInBounds_toArray, List.set_cons_zero, List.set_cons_succ]
          change wpAnyH _ _ _ _ _ 7 #[true, true, true, true, true, true, false, false, false, false, false, false, false] _ _
          refine wpAnyH_ready (rs := [6, 10]) (by kernel_rfl) (by simp) ?_
          refine AllReadyH.cons rfl (fun K hK => ?_) (AllReadyH.cons rfl (fun K hK => ?_) (AllReadyH.nil))
          · simp only [List.getElem_toArray, List.getElem_cons_succ, List.getElem_cons_zero]
            refine (if_pos (by kernel_rfl)).mpr ?_
            go_wp2_with fail
            refine (HTK.out _ (HF5.out.then0 (hHeld0).2)).mono ?_
            rintro e wx0 ⟨a6, c6, rfl, hv6, hfx0⟩
            dsimp only
            have HV6 := Lib.hid hv6
            clear hv6
            refine hK.out _ _ (⟨hfx0.keep (hHeld0).1 (fun h => h), (hHeld0).2.then0 hfx0⟩) (fun hHeld1 => ?_)
            clear hK K hHeld0
            clear hfx0
            change wpAnyH _ _ _ _ _ 6 #[true, true, true, true, true, true, true, false, false, false, false, false, false] _ _
            refine wpAnyH_take (i := 7) (v := .tuple #[.agg (rval X a6 c6), .int .i64 e2]) rfl (by kernel_rfl) (by kernel_rfl) (by kernel_rfl) (fun _ _ _ h => h) (Or.inl ⟨by kernel_rfl, fun w hSw => by first | kernel_rfl | (go_simp; done)⟩) hHeld1 ?_
            simp only [Act.put, List.getElem_toArray, List.getElem_cons_succ, List.getElem_cons_zero, List.setIfInBounds_toArray, List.set_cons_zero, List.set_cons_succ]
            change wpAnyH _ _ _ _ _ 5 #[true, true, true, true, true, true, true, true, false, false, false, false, false] _ _
            refine wpAnyH_take (i := 8) (v := .agg (rval X a6 c6)) rfl (by kernel_rfl) (by kernel_rfl) (by kernel_rfl) (fun _ _ _ h => h) (Or.inl ⟨by kernel_rfl, fun w hSw => by go_simp⟩) hHeld1 ?_
            simp only [Act.put, List.getElem_toArray, List.getElem_cons_succ, List.getElem_cons_zero, List.setIfInBounds_toArray, List.set_cons_zero, List.set_cons_succ]
            change wpAnyH _ _ _ _ _ 4 #[true, true, true, true, true, true, true, true, true, false, false, false, false] _ _
            refine wpAnyH_take (i := 9) (v := .int .i64 e2) rfl (by kernel_rfl) (by kernel_rfl) (by kernel_rfl) (fun _ _ _ h => h) (Or.inl ⟨by kernel_rfl, fun w hSw => by go_simp⟩) hHeld1 ?_
            simp only [Act.put, List.getElem_toArray, List.getElem_cons_succ, List.getElem_cons_zero, List.setIfInBounds_toArray, List.set_cons_zero, List.set_cons_succ]
            change wpAnyH _ _ _ _ _ 3 #[true, true, true, true, true, true, true, true, true, true, false, false, false] _ _
            refine wpAnyH_ready (rs := [10]) (by kernel_rfl) (by simp) ?_
            refine AllReadyH.cons rfl (fun K hK => ?_) AllReadyH.nil
            simp only [List.getElem_toArray, List.getElem_cons_succ, List.getElem_cons_zero]
            refine (if_pos (by kernel_rfl)).mpr ?_
            go_wp2_with fail
            have hfx1 : Fr (fun _ => False) wx0 (wx0.alloc (.cells RZ 24)) := Fr.alloc (Fr.refl _ _) _
            have HV7 := Lib.hid (HV6.out.keep hfx1)
            clear HV6
            have HV6 := HV7
            clear HV7
            have HZ6 : Hid (Bk (wx0.alloc (.cells RZ 24)) wx0.heap.size RZ 24) := Lib.hid (Bk.new wx0 _)
            have HGE : Hid (w5.heap.size ≤ wx0.heap.size) := Lib.hid (Fr.size (hHeld1).2)
            refine hK.out _ _ (⟨Bk.alloc (hHeld1).1 _, Fr.alloc (hHeld1).2 _⟩) (fun hHeld2 => ?_)
            clear hK K hHeld1
            clear hfx1
            generalize wx0.heap.size = g6 at *
            generalize (wx0.alloc (.cells RZ 24)) = wx1 at *
            change wpAnyH _ _ _ _ _ 2 #[true, true, true, true, true, true, true, true, true, true, true, false, false] _ _
            refine wpAnyH_ready (rs := [11]) (by kernel_rfl) (by simp) ?_
            refine AllReadyH.cons rfl (fun K hK => ?_) AllReadyH.nil
            simp only [List.getElem_toArray, List.getElem_cons_succ, List.getElem_cons_zero]
            refine (if_pos (by kernel_rfl)).mpr ?_
            refine wp_store_row 24 _ _ rfl g6 (rval X a6 c6) rfl rfl 24 RZ HZ6.out (HIN.out _ _) rfl (RC_all _ _ _ _) ?_
            have HV7 : Hid (RV (wx1.setRow g6 (rval X a6 c6)) X a6 c6) := Lib.hid (RmPair.RV.pastR HV6.out (Fr.row1 _ _ _) HZ6.out)
            have HZ7 : Hid (Bk (wx1.setRow g6 (rval X a6 c6)) g6 (rval X a6 c6) 24) := Lib.hid (ArrKit.Bk.row HZ6.out _)
            clear HV6 HZ6
            refine hK.out _ _ (⟨ArrKit.Bk.rowOther (hHeld2).1 _ (by have := HGE.out; have := HQ4.out; omega), ArrKit.Fr.row (hHeld2).2 _ _ (.inl HGE.out)⟩) (fun hHeld3 => ?_)
            clear hK K hHeld2
            generalize (wx1.setRow g6 (rval X a6 c6)) = w6 at *
            change wpAnyH _ _ _ _ _ 1 #[true, true, true, true, true, true, true, true, true, true, true, true, false] _ _
            refine wpAnyH_take (i := 12) (v := .int .i64 e2) rfl (by kernel_rfl) (by kernel_rfl) (by kernel_rfl) (fun _ _ _ h => h) (Or.inl ⟨by kernel_rfl, fun w hSw => by first | kernel_rfl | (go_simp; done)⟩) hHeld3 ?_
            simp only [Act.put, List.getElem_toArray, List.getElem_cons_succ, List.getElem_cons_zero, List.setIfInBounds_toArray, List.set_cons_zero, List.set_cons_succ]
            change wpAnyH _ _ _ _ _ 0 #[true, true, true, true, true, true, true, true, true, true, true, true, true] _ _
            refine wpAnyH_done (by kernel_rfl) ?_ _
            refine NoPanic.normal ?_
            have HEND := Lib.hid hHeld3
            clear hHeld3
            exact HREST.out w6 g6 a6 c6 HEND.out.2 HZ7.out HV7.out HGE.out
          · simp only [List.getElem_toArray, List.getElem_cons_succ, List.getElem_cons_zero]
            refine (if_pos (by kernel_rfl)).mpr ?_
            go_wp2_with fail
            have hfx0 : Fr (fun _ => False) wd (wd.alloc (.cells RZ 24)) := Fr.alloc (Fr.refl _ _) _
            have HZ6 : Hid (Bk (wd.alloc (.cells RZ 24)) wd.heap.size RZ 24) := Lib.hid (Bk.new wd _)
            have HGE : Hid (w5.heap.size ≤ wd.heap.size) := Lib.hid (Fr.size (hHeld0).2)
            refine hK.out _ _ (⟨Bk.alloc (hHeld0).1 _, Fr.alloc (hHeld0).2 _⟩) (fun hHeld1 => ?_)
            clear hK K hHeld0
            clear hfx0
            generalize wd.heap.size = g6 at *
            generalize (wd.alloc (.cells RZ 24)) = wx0 at *
            change wpAnyH _ _ _ _ _ 6 #[true, true, true, true, true, true, false, false, false, false, true, false, false] _ _
            refine wpAnyH_ready (rs := [6]) (by kernel_rfl) (by simp) ?_
            refine AllReadyH.cons rfl (fun K hK => ?_) AllReadyH.nil
            simp only [List.getElem_toArray, List.getElem_cons_succ, List.getElem_cons_zero]
            refine (if_pos (by kernel_rfl)).mpr ?_
            go_wp2_with fail
            refine (HTK.out _ (HF5.out.then0 (hHeld1).2)).mono ?_
            rintro e wx1 ⟨a6, c6, rfl, hv6, hfx1⟩
            dsimp only
            have HZ7 := Lib.hid (hfx1.keep HZ6.out (fun h => h))
            clear HZ6
            have HZ6 := HZ7
            clear HZ7
            have HV6 := Lib.hid hv6
            clear hv6
            refine hK.out _ _ (⟨hfx1.keep (hHeld1).1 (fun h => h), (hHeld1).2.then0 hfx1⟩) (fun hHeld2 => ?_)
            clear hK K hHeld1
            clear hfx1
            change wpAnyH _ _ _ _ _ 5 #[true, true, true, true, true, true, true, false, false, false, true, false, false] _ _
            refine wpAnyH_take (i := 7) (v := .tuple #[.agg (rval X a6 c6), .int .i64 e2]) rfl (by kernel_rfl) (by kernel_rfl) (by kernel_rfl) (fun _ _ _ h => h) (Or.inl ⟨by kernel_rfl, fun w hSw => by first | kernel_rfl | (go_simp; done)⟩) hHeld2 ?_
            simp only [Act.put, List.getElem_toArray, List.getElem_cons_succ, List.getElem_cons_zero, List.setIfInBounds_toArray, List.set_cons_zero, List.set_cons_succ]
            change wpAnyH _ _ _ _ _ 4 #[true, true, true, true, true, true, true, true, false, false, true, false, false] _ _
            refine wpAnyH_take (i := 8) (v := .agg (rval X a6 c6)) rfl (by kernel_rfl) (by kernel_rfl) (by kernel_rfl) (fun _ _ _ h => h) (Or.inl ⟨by kernel_rfl, fun w hSw => by go_simp⟩) hHeld2 ?_
            simp only [Act.put, List.getElem_toArray, List.getElem_cons_succ, List.getElem_cons_zero, List.setIfInBounds_toArray, List.set_cons_zero, List.set_cons_succ]
            change wpAnyH _ _ _ _ _ 3 #[true, true, true, true, true, true, true, true, true, false, true, false, false] _ _
            refine wpAnyH_take (i := 9) (v := .int .i64 e2) rfl (by kernel_rfl) (by kernel_rfl) (by kernel_rfl) (fun _ _ _ h => h) (Or.inl ⟨by kernel_rfl, fun w hSw => by go_simp⟩) hHeld2 ?_
            simp only [Act.put, List.getElem_toArray, List.getElem_cons_succ, List.getElem_cons_zero, List.setIfInBounds_toArray, List.set_cons_zero, List.set_cons_succ]
            change wpAnyH _ _ _ _ _ 2 #[true, true, true, true, true, true, true, true, true, true, true, false, false] _ _
            refine wpAnyH_ready (rs := [11]) (by kernel_rfl) (by simp) ?_
            refine AllReadyH.cons rfl (fun K hK => ?_) AllReadyH.nil
            simp only [List.getElem_toArray, List.getElem_cons_succ, List.getElem_cons_zero]
            refine (if_pos (by kernel_rfl)).mpr ?_
            refine wp_store_row 24 _ _ rfl g6 (rval X a6 c6) rfl rfl 24 RZ HZ6.out (HIN.out _ _) rfl (RC_all _ _ _ _) ?_
            have HV7 : Hid (RV (wx1.setRow g6 (rval X a6 c6)) X a6 c6) := Lib.hid (RmPair.RV.pastR HV6.out (Fr.row1 _ _ _) HZ6.out)
            have HZ7 : Hid (Bk (wx1.setRow g6 (rval X a6 c6)) g6 (rval X a6 c6) 24) := Lib.hid (ArrKit.Bk.row HZ6.out _)
            clear HV6 HZ6
            refine hK.out _ _ (⟨ArrKit.Bk.rowOther (hHeld2).1 _ (by have := HGE.out; have := HQ4.out; omega), ArrKit.Fr.row (hHeld2).2 _ _ (.inl HGE.out)⟩) (fun hHeld3 => ?_)
            clear hK K hHeld2
            generalize (wx1.setRow g6 (rval X a6 c6)) = w6 at *
            change wpAnyH _ _ _ _ _ 1 #[true, true, true, true, true, true, true, true, true, true, true, true, false] _ _
            refine wpAnyH_take (i := 12) (v := .int .i64 e2) rfl (by kernel_rfl) (by kernel_rfl) (by kernel_rfl) (fun _ _ _ h => h) (Or.inl ⟨by kernel_rfl, fun w hSw => by first | kernel_rfl | (go_simp; done)⟩) hHeld3 ?_
            simp only [Act.put, List.getElem_toArray, List.getElem_cons_succ, List.getElem_cons_zero, List.setIfInBounds_toArray, List.set_cons_zero, List.set_cons_succ]
            change wpAnyH _ _ _ _ _ 0 #[true, true, true, true, true, true, true, true, true, true, true, true, true] _ _
            refine wpAnyH_done (by kernel_rfl) ?_ _
            refine NoPanic.normal ?_
            have HEND := Lib.hid hHeld3
            clear hHeld3
            exact HREST.out w6 g6 a6 c6 HEND.out.2 HZ7.out HV7.out HGE.out
        · have hE1b : (e1 != 0) = true := by simpa using hE1
          have hno : cand d k = none := by rw [HCK.out, if_neg (fun h => hE1 h.1)]
          have hBb := best_not HB.out hno
          rw [← HBK.out] at hBb
          have HBN := Lib.hid hBb
          clear hBb hX he2 hno HCK hE1
          go_wp2_with (first | (go_at_call 43; (with_reducible refine (HRX.out _ HF.out).mono ?_); rintro e w4 ⟨rfl, hf4⟩; have HZ4 := Lib.hid (Bk.new w4 (.cells ZB 27)); have hfx : Fr0 wr ((w4.alloc (.cells ZB 27)).setRow w4.heap.size LB) := hf4.then0 (ArrKit.Fr.row (Fr.alloc (Fr.refl _ _) _) _ _ (.inl (Nat.le_refl _))); have HX5 := Lib.hid (hfx.keep HX.out (fun h => h)); have HY5 := Lib.hid (hfx.keep HY.out (fun h => h)); have HR5 := Lib.hid (HR.out.keep hfx); have HF5 := Lib.hid (HF.out.then0 hfx); have HB5 : Hid (Bk ((w4.alloc (.cells ZB 27)).setRow w4.heap.size LB) w4.heap.size LB 27) := Lib.hid (ArrKit.Bk.row HZ4.out _); clear hf4 hfx) | ((with_reducible show wpList _ _ _ ({ dst := _, op := Op.store 27 _ _, type := _, pos := _, after := _, guard := _ } :: _) _ _); refine wpList_store_row rfl 27 _ _ rfl w4.heap.size LB rfl rfl 27 ZB HZ4.out HIL.out HSL.out HOL.out ?_))
          go_roundw
          case rel => exact ⟨k + 1, f, m, a, c, by have := HK.out; omega, by go_num, rfl, HBN.out, HX5.out, HY5.out, HR5.out, HF5.out⟩
          case measure => have := HK.out; simp [intOf]; omega
      · have hke : k = 4 := by omega
        subst hke
        have hlx := HLX.out _ _ HB.out
        cases f with
        | true =>
          go_wp2_with (first | ((with_reducible show wpList _ _ _ ({ dst := _, op := Op.load 24 _, type := _, pos := _, after := _, guard := _ } :: _) _ _); refine wpList_load_row_g (by rfl) 24 _ rfl y rfl 24 _ (0, 0) _ HY.out Tryd.underlying24 rfl (HIN.out _ _) ?_) | ((with_reducible show wpList _ _ _ ({ dst := _, op := Op.store 24 _ _, type := _, pos := _, after := _, guard := _ } :: _) _ _); refine wpList_store_row rfl 24 _ _ rfl w.heap.size (rval m a c) rfl rfl 24 RZ HX.out (HIN.out _ _) rfl (RC_all _ _ _ _) ?_))
          try rw [Exit.noGoto_ret]
          refine fin_ct w.heap.size 24 (rval m a c) (.int .i64 0) (by rfl) (by rfl) (by rfl) (by rfl) Tryd.underlying24 (by rfl) (HIN.out _ _) (ArrKit.Bk.row HX.out _) ?_
          rw [hlx, if_pos trivial]
          exact ⟨a, c, rfl, RmPair.RV.pastR HR.out (Fr.row1 _ _ _) HX.out, ArrKit.Fr.row HF.out _ _ (.inl (by omega))⟩
        | false =>
          go_wp2_with (first | ((with_reducible show wpList _ _ _ ({ dst := _, op := Op.build 24 _, type := _, pos := _, after := _, guard := _ } :: _) _ _); refine build_ev rfl 24 _ rfl [] (by simp) RZ RmTake.built_rz ?_) | ((with_reducible show wpList _ _ _ ({ dst := _, op := Op.store 24 _ _, type := _, pos := _, after := _, guard := _ } :: _) _ _); refine wpList_store_row rfl 24 _ _ rfl w.heap.size RZ rfl rfl 24 RZ HX.out (HIN.out _ _) rfl (RC_all _ _ _ _) ?_))
          try rw [Exit.noGoto_ret]
          refine fin_ct w.heap.size 24 RZ (.int .i64 2) (by rfl) (by rfl) (by rfl) (by rfl) Tryd.underlying24 (by rfl) (HIN.out _ _) (ArrKit.Bk.row HX.out _) ?_
          rw [hlx, if_neg (by decide)]
          exact ⟨none, 0, rfl, RmTake.rv_none _, ArrKit.Fr.row HF.out _ _ (.inl (by omega))⟩

end Go.Proofs.YtlleandelcjhjaaDoor.RmLoad
