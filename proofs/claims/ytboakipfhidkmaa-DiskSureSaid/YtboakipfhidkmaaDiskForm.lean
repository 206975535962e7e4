/- Is a disk formed, and has it a sector: the walks of disk.Formed and disk.right. -/
import Derived.Test.YtboakipfhidkmaaDiskAsk
set_option linter.unusedVariables false
set_option linter.unusedSimpArgs false
namespace Go.Proofs.Ytboakipfhidkmaa.DiskForm
open Go Go.RowKit Go.Proofs.Ytboakipfhidkmaa.K Go.Proofs.Ytboakipfhidkmaa.EqKit Go.Proofs.Ytboakipfhidkmaa.ArrKit Go.Proofs.Ytboakipfhidkmaa.HeldKit Go.Proofs.Ytboakipfhidkmaa.GKit Go.Proofs.Ytboakipfhidkmaa.GRow Go.Proofs.Ytboakipfhidkmaa.DiskKit Go.Proofs.Ytboakipfhidkmaa.DiskAsk

set_option maxHeartbeats 2000000 in
set_option maxRecDepth 100000 in
theorem clo_neg (x : Wri) (n g : Nat) (w : World) (hx : x.ok) (hg : w.cell? ⟨g, 0, none⟩ = some (.int .i64 n)) (h : x.pos < 0) : Calls Try.prog 33 #[.agg x.cells.toArray, .pointer (some ⟨g, 0, none⟩)] w fun e w' => e = .returned (.bool true) ∧ Fr0 w w' := by
  have hgw := World.block_lt_of_cell? w _ hg
  have hF : Fr0 w (w.alloc (.cells x.cells.toArray 65)) := Fr.alloc (Fr.refl _ _) _
  have q0 : (w.alloc (.cells x.cells.toArray 65)).cell? ⟨w.heap.size, 0, none⟩ = some (.int .i64 x.pos) := (Bk.cell (Bk.new w _) 0).trans (by simp [Wri.cells])
  have q1 : (w.alloc (.cells x.cells.toArray 65)).cell? ⟨g, 0, none⟩ = some (.int .i64 n) := (hF.cell g 0 hgw (fun h => h)).trans hg
  have HF := Lib.hid hF
  clear hF hg
  have c0 : decide (x.pos < 0) = true := decide_eq_true h
  generalize x.cells.toArray = X at *
  go_enter Try.func33, Try.ntmps33
  go_wp2
  go_ret
  exact ⟨rfl, HF.out⟩

set_option maxHeartbeats 2000000 in
set_option maxRecDepth 100000 in
theorem clo_in (x : Wri) (n g : Nat) (w : World) (hx : x.ok) (hg : w.cell? ⟨g, 0, none⟩ = some (.int .i64 n)) (h : 0 ≤ x.pos ∧ x.pos < n) : Calls Try.prog 33 #[.agg x.cells.toArray, .pointer (some ⟨g, 0, none⟩)] w fun e w' => e = .returned (.bool false) ∧ Fr0 w w' := by
  have hgw := World.block_lt_of_cell? w _ hg
  have hF : Fr0 w (w.alloc (.cells x.cells.toArray 65)) := Fr.alloc (Fr.refl _ _) _
  have q0 : (w.alloc (.cells x.cells.toArray 65)).cell? ⟨w.heap.size, 0, none⟩ = some (.int .i64 x.pos) := (Bk.cell (Bk.new w _) 0).trans (by simp [Wri.cells])
  have q1 : (w.alloc (.cells x.cells.toArray 65)).cell? ⟨g, 0, none⟩ = some (.int .i64 n) := (hF.cell g 0 hgw (fun h => h)).trans hg
  have HF := Lib.hid hF
  clear hF hg
  have c0 : decide (x.pos < 0) = false := decide_eq_false (by omega)
  have c1 : decide ((n : Int) ≤ x.pos) = false := decide_eq_false (by omega)
  generalize x.cells.toArray = X at *
  go_enter Try.func33, Try.ntmps33
  go_wp2
  go_ret
  exact ⟨rfl, HF.out⟩

set_option maxHeartbeats 2000000 in
set_option maxRecDepth 100000 in
theorem clo_out (x : Wri) (n g : Nat) (w : World) (hx : x.ok) (hg : w.cell? ⟨g, 0, none⟩ = some (.int .i64 n)) (h : 0 ≤ x.pos ∧ n ≤ x.pos) : Calls Try.prog 33 #[.agg x.cells.toArray, .pointer (some ⟨g, 0, none⟩)] w fun e w' => e = .returned (.bool true) ∧ Fr0 w w' := by
  have hgw := World.block_lt_of_cell? w _ hg
  have hF : Fr0 w (w.alloc (.cells x.cells.toArray 65)) := Fr.alloc (Fr.refl _ _) _
  have q0 : (w.alloc (.cells x.cells.toArray 65)).cell? ⟨w.heap.size, 0, none⟩ = some (.int .i64 x.pos) := (Bk.cell (Bk.new w _) 0).trans (by simp [Wri.cells])
  have q1 : (w.alloc (.cells x.cells.toArray 65)).cell? ⟨g, 0, none⟩ = some (.int .i64 n) := (hF.cell g 0 hgw (fun h => h)).trans hg
  have HF := Lib.hid hF
  clear hF hg
  have c0 : decide (x.pos < 0) = false := decide_eq_false (by omega)
  have c1 : decide ((n : Int) ≤ x.pos) = true := decide_eq_true (by omega)
  generalize x.cells.toArray = X at *
  go_enter Try.func33, Try.ntmps33
  go_wp2
  go_ret
  exact ⟨rfl, HF.out⟩

theorem clo_calls (x : Wri) (n g : Nat) (w : World) (hx : x.ok) (hg : w.cell? ⟨g, 0, none⟩ = some (.int .i64 n)) : Calls Try.prog 33 #[.agg x.cells.toArray, .pointer (some ⟨g, 0, none⟩)] w fun e w' => e = .returned (.bool (!thereB n x.pos)) ∧ Fr0 w w' := by
  by_cases h0 : x.pos < 0
  · rw [thereB_false.2 (by omega)]; exact clo_neg x n g w hx hg h0
  · by_cases h1 : x.pos < n
    · rw [thereB_true.2 ⟨by omega, h1⟩]; exact clo_in x n g w hx hg ⟨by omega, h1⟩
    · rw [thereB_false.2 (by omega)]; exact clo_out x n g w hx hg ⟨by omega, by omega⟩
/-- the index of the first write that isn't there, or -1 -/
def NoIx (n : Nat) (l : List Wri) (r : Int) : Prop := if allThere n l = true then r = -1 else 0 ≤ r
set_option maxHeartbeats 2000000 in
set_option maxRecDepth 100000 in
theorem ixf_calls (n g : Nat) (l : List Wri) (ca : Option Addr) (cc : Nat) (w : World) (hrc : RdC w ca l) (hok : ∀ x ∈ l, x.ok) (hcn : l.length ≤ cc) (hcm : cc ≤ 9223372036854775807) (hg : w.cell? ⟨g, 0, none⟩ = some (.int .i64 n)) :
    Calls Try.prog 43 #[.slice ca l.length cc, .func (.func 33) #[] #[.pointer (some ⟨g, 0, none⟩)]] w fun e w' => (∃ r : Int, e = .returned (.int .i64 r) ∧ NoIx n l r) ∧ Fr0 w w' := by
  have hgw := World.block_lt_of_cell? w _ hg
  have HRC := Lib.hid hrc
  have HOK := Lib.hid hok
  have HG := Lib.hid hg
  clear hrc hok hg
  go_enter Try.func43, Try.ntmps43
  go_wp2
  go_loopw [8] (fun i wr => ∃ k : Nat, k ≤ l.length ∧ i = .int .i64 k ∧ allThere n (l.take k) = true ∧ Fr0 w wr) (fun i _ => l.length - (intOf i).toNat)
  case atStart => exact ⟨0, Nat.zero_le _, rfl, by simp [allThere], Fr.refl _ _⟩
  case round =>
    obtain ⟨k, hk, rfl, hall, hF⟩ := hrel
    have HALL := Lib.hid hall
    have HFR := Lib.hid hF
    clear hall hF
    by_cases hlt : k < l.length
    · obtain ⟨b, o, rfl, hrg⟩ := (RdG.keep HRC.out HFR.out) k hlt
      have HRG := Lib.hid hrg
      have HX := Lib.hid (HOK.out _ (List.getElem_mem hlt))
      have HIX : Hid ((Try.prog.info? 65).map (·.size) = some l[k].cells.length) := Lib.hid (by rw [Wri.leng HX.out, info_w])
      have HCL := Lib.hid (clo_calls l[k] n g wr HX.out ((HFR.out.cell g 0 hgw (fun h => h)).trans HG.out))
      clear hrg
      cases ht : thereB n l[k].pos with
      | true =>
        have HT := Lib.hid ht
        rw [ht] at HCL
        clear ht
        go_wp2_with (first | ((with_reducible show wpList _ _ _ ({ dst := _, op := Op.load 65 _, type := _, pos := _, after := _, guard := _ } :: _) _ _); refine wpList_load_mid rfl 65 _ rfl b (o + k * 129) rfl l[k].cells _ HRG.out Try.underlying65 rfl HIX.out ?_) | (go_at_call 33; (with_reducible refine HCL.out.mono ?_); rintro e w2 ⟨rfl, hf2⟩; have HF2 := Lib.hid (HFR.out.then0 hf2); clear hf2))
        go_roundw
        case rel => exact ⟨k + 1, by omega, by go_num, by rw [all_take hlt, HALL.out, HT.out]; rfl, HF2.out⟩
        case measure => simp [intOf]; omega
      | false =>
        have HT := Lib.hid ht
        rw [ht] at HCL
        clear ht
        go_wp2_with (first | ((with_reducible show wpList _ _ _ ({ dst := _, op := Op.load 65 _, type := _, pos := _, after := _, guard := _ } :: _) _ _); refine wpList_load_mid rfl 65 _ rfl b (o + k * 129) rfl l[k].cells _ HRG.out Try.underlying65 rfl HIX.out ?_) | (go_at_call 33; (with_reducible refine HCL.out.mono ?_); rintro e w2 ⟨rfl, hf2⟩; have HF2 := Lib.hid (HFR.out.then0 hf2); clear hf2))
        go_ret
        refine ⟨⟨k, rfl, ?_⟩, HF2.out⟩
        rw [NoIx, all_false hlt HT.out, if_neg (by simp)]
        omega
    · obtain rfl : k = l.length := by omega
      clear hlt
      go_wp2
      go_ret
      refine ⟨⟨-1, rfl, ?_⟩, HFR.out⟩
      have := HALL.out
      rw [List.take_length] at this
      rw [NoIx, if_pos this]
set_option maxHeartbeats 2000000 in
set_option maxRecDepth 100000 in
theorem cf_calls (n g : Nat) (l : List Wri) (ca : Option Addr) (cc : Nat) (w : World) (hrc : RdC w ca l) (hok : ∀ x ∈ l, x.ok) (hcn : l.length ≤ cc) (hcm : cc ≤ 9223372036854775807) (hg : w.cell? ⟨g, 0, none⟩ = some (.int .i64 n)) :
    Calls Try.prog 32 #[.slice ca l.length cc, .func (.func 33) #[] #[.pointer (some ⟨g, 0, none⟩)]] w fun e w' => e = .returned (.bool (!allThere n l)) ∧ Fr0 w w' := by
  have HC := Lib.hid (ixf_calls n g l ca cc w hrc hok hcn hcm hg)
  clear hrc hok hg
  go_enter Try.func32, Try.ntmps32
  go_wp2_with (go_at_call 43; (with_reducible refine HC.out.mono ?_); rintro e w2 ⟨⟨r, rfl, hr⟩, hf2⟩; have HF2 := Lib.hid hf2; have HR := Lib.hid hr; clear hf2 hr)
  go_ret
  refine ⟨?_, HF2.out⟩
  have := HR.out
  unfold NoIx at this
  cases h : allThere n l with
  | true =>
    rw [h, if_pos rfl] at this
    subst this; rfl
  | false =>
    rw [h, if_neg (by simp)] at this
    exact congrArg (fun b => Ending.returned (.bool b)) (decide_eq_true this)

set_option maxHeartbeats 2000000 in
set_option maxRecDepth 100000 in
theorem formed_small (d : Dk) (sa : Option Addr) (sc : Nat) (ca : Option Addr) (cc : Nat) (w : World) (hok : d.ok) (hv : DV w d sa sc ca cc) (h : d.S.length = 0) : Calls Try.prog 16 #[.agg (dval d sa sc ca cc)] w fun e w' => e = .returned (.bool false) ∧ Fr0 w w' := by
  have c0 : decide (0 < d.S.length) = false := decide_eq_false (by omega)
  have hm := hv.sm
  have hsn := hv.sn
  have hs1 : (w.alloc (.cells (dval d sa sc ca cc) 25)).heap.size = w.heap.size + 1 := by simp
  have HF : Hid (Fr0 w ((w.alloc (.cells (dval d sa sc ca cc) 25)).alloc (.cells #[.int .i64 d.S.length] 3))) := Lib.hid (Fr.alloc (Fr.alloc (Fr.refl _ _) _) _)
  have HC := Lib.hid (cf_calls d.S.length (w.heap.size + 1) d.C ca cc ((w.alloc (.cells (dval d sa sc ca cc) 25)).alloc (.cells #[.int .i64 d.S.length] 3)) (RdG.keep hv.rc HF.out) hok.c hv.cn hv.cm (by have := Bk.new (w.alloc (.cells (dval d sa sc ca cc) 25)) (.cells #[.int .i64 d.S.length] 3); rw [hs1] at this; exact (Bk.cell this 0)))
  have hmf : ∀ (fn : Fn) (first cap : Array Value) (W : World), (Instr.makeFunc fn first cap).run Try.prog W = .ok (.func fn first cap) W := fun _ _ _ _ => rfl
  clear hv hok hs1 h
  obtain ⟨SS, CC, ff, dd⟩ := d
  dsimp only [dval] at *
  go_enter Try.func16, Try.ntmps16
  go_wp2_with (go_at_call 32; (with_reducible refine HC.out.mono ?_); rintro e w2 ⟨rfl, hf2⟩; have HF2 := Lib.hid (HF.out.then0 hf2); clear hf2)
  go_ret
  exact ⟨rfl, HF.out⟩

set_option maxHeartbeats 2000000 in
set_option maxRecDepth 100000 in
theorem formed_large (d : Dk) (sa : Option Addr) (sc : Nat) (ca : Option Addr) (cc : Nat) (w : World) (hok : d.ok) (hv : DV w d sa sc ca cc) (h : 4096 < d.S.length) : Calls Try.prog 16 #[.agg (dval d sa sc ca cc)] w fun e w' => e = .returned (.bool false) ∧ Fr0 w w' := by
  have c0 : decide (0 < d.S.length) = true := decide_eq_true (by omega)
  have c1 : decide ((d.S.length : Int) ≤ 4096) = false := decide_eq_false (by omega)
  have hm := hv.sm
  have hsn := hv.sn
  have hs1 : (w.alloc (.cells (dval d sa sc ca cc) 25)).heap.size = w.heap.size + 1 := by simp
  have HF : Hid (Fr0 w ((w.alloc (.cells (dval d sa sc ca cc) 25)).alloc (.cells #[.int .i64 d.S.length] 3))) := Lib.hid (Fr.alloc (Fr.alloc (Fr.refl _ _) _) _)
  have HC := Lib.hid (cf_calls d.S.length (w.heap.size + 1) d.C ca cc ((w.alloc (.cells (dval d sa sc ca cc) 25)).alloc (.cells #[.int .i64 d.S.length] 3)) (RdG.keep hv.rc HF.out) hok.c hv.cn hv.cm (by have := Bk.new (w.alloc (.cells (dval d sa sc ca cc) 25)) (.cells #[.int .i64 d.S.length] 3); rw [hs1] at this; exact (Bk.cell this 0)))
  have hmf : ∀ (fn : Fn) (first cap : Array Value) (W : World), (Instr.makeFunc fn first cap).run Try.prog W = .ok (.func fn first cap) W := fun _ _ _ _ => rfl
  clear hv hok hs1 h
  obtain ⟨SS, CC, ff, dd⟩ := d
  dsimp only [dval] at *
  go_enter Try.func16, Try.ntmps16
  go_wp2_with (go_at_call 32; (with_reducible refine HC.out.mono ?_); rintro e w2 ⟨rfl, hf2⟩; have HF2 := Lib.hid (HF.out.then0 hf2); clear hf2)
  go_ret
  exact ⟨rfl, HF.out⟩

set_option maxHeartbeats 2000000 in
set_option maxRecDepth 100000 in
theorem formed_mid (d : Dk) (sa : Option Addr) (sc : Nat) (ca : Option Addr) (cc : Nat) (w : World) (hok : d.ok) (hv : DV w d sa sc ca cc) (h : 1 ≤ d.S.length ∧ d.S.length ≤ 4096) : Calls Try.prog 16 #[.agg (dval d sa sc ca cc)] w fun e w' => e = .returned (.bool (allThere d.S.length d.C)) ∧ Fr0 w w' := by
  have c0 : decide (0 < d.S.length) = true := decide_eq_true (by omega)
  have c1 : decide ((d.S.length : Int) ≤ 4096) = true := decide_eq_true (by omega)
  have hm := hv.sm
  have hsn := hv.sn
  have hs1 : (w.alloc (.cells (dval d sa sc ca cc) 25)).heap.size = w.heap.size + 1 := by simp
  have HF : Hid (Fr0 w ((w.alloc (.cells (dval d sa sc ca cc) 25)).alloc (.cells #[.int .i64 d.S.length] 3))) := Lib.hid (Fr.alloc (Fr.alloc (Fr.refl _ _) _) _)
  have HC := Lib.hid (cf_calls d.S.length (w.heap.size + 1) d.C ca cc ((w.alloc (.cells (dval d sa sc ca cc) 25)).alloc (.cells #[.int .i64 d.S.length] 3)) (RdG.keep hv.rc HF.out) hok.c hv.cn hv.cm (by have := Bk.new (w.alloc (.cells (dval d sa sc ca cc) 25)) (.cells #[.int .i64 d.S.length] 3); rw [hs1] at this; exact (Bk.cell this 0)))
  have hmf : ∀ (fn : Fn) (first cap : Array Value) (W : World), (Instr.makeFunc fn first cap).run Try.prog W = .ok (.func fn first cap) W := fun _ _ _ _ => rfl
  clear hv hok hs1 h
  obtain ⟨SS, CC, ff, dd⟩ := d
  dsimp only [dval] at *
  go_enter Try.func16, Try.ntmps16
  go_wp2_with (go_at_call 32; (with_reducible refine HC.out.mono ?_); rintro e w2 ⟨rfl, hf2⟩; have HF2 := Lib.hid (HF.out.then0 hf2); clear hf2)
  go_ret
  exact ⟨rfl, HF2.out⟩

theorem formed_calls (d : Dk) (sa : Option Addr) (sc : Nat) (ca : Option Addr) (cc : Nat) (w : World) (hok : d.ok) (hv : DV w d sa sc ca cc) : Calls Try.prog 16 #[.agg (dval d sa sc ca cc)] w fun e w' => e = .returned (.bool (formedB d)) ∧ Fr0 w w' := by
  by_cases h0 : d.S.length = 0
  · rw [formed_no (by omega)]; exact formed_small d sa sc ca cc w hok hv h0
  · by_cases h1 : d.S.length ≤ 4096
    · have := formed_mid d sa sc ca cc w hok hv ⟨by omega, h1⟩
      rw [show formedB d = allThere d.S.length d.C by rw [formedB, decide_eq_true (by omega : 1 ≤ d.S.length ∧ d.S.length ≤ 4096), Bool.and_true]]
      exact this
    · rw [formed_no (by omega)]; exact formed_large d sa sc ca cc w hok hv (by omega)

set_option maxHeartbeats 2000000 in
set_option maxRecDepth 100000 in
theorem right_neg (p : Nat) (a : Int) (d : Dk) (sa : Option Addr) (sc : Nat) (ca : Option Addr) (cc : Nat) (w : World) (hok : d.ok) (hv : DAt w p d sa sc ca cc) (h : a < 0) : Calls Try.prog 29 #[.pointer (some ⟨p, 0, none⟩), .int .i64 a] w fun e w' => e = .returned (.bool false) ∧ Fr0 w w' := by
  have c0 : decide (0 ≤ a) = false := decide_eq_false (by omega)
  have hm := hv.v.sm
  have hsn := hv.v.sn
  have HC := Lib.hid (formed_calls d sa sc ca cc w hok hv.v)
  have HB := Lib.hid hv.blk
  clear hv hok h
  obtain ⟨SS, CC, ff, dd⟩ := d
  dsimp only [dval] at *
  have q0 : w.cell? ⟨p, 0, none⟩ = some (.slice sa SS.length sc) := Bk.cell HB.out 0
  generalize formedB _ = FB at *
  go_enter Try.func29, Try.ntmps29
  go_wp2_with (first | ((with_reducible show wpList _ _ _ ({ dst := _, op := Op.load 25 _, type := _, pos := _, after := _, guard := _ } :: _) _ _); refine wpList_load_row_g (by rfl) 25 _ rfl p rfl 25 _ (0, 0) _ HB.out Try.underlying25 rfl info_d ?_) | (go_at_call 16; (with_reducible refine HC.out.mono ?_); rintro e w2 ⟨rfl, hf2⟩; have HF2 := Lib.hid hf2; clear hf2))
  go_ret
  exact ⟨rfl, Fr.refl _ _⟩

set_option maxHeartbeats 2000000 in
set_option maxRecDepth 100000 in
theorem right_out (p : Nat) (a : Int) (d : Dk) (sa : Option Addr) (sc : Nat) (ca : Option Addr) (cc : Nat) (w : World) (hok : d.ok) (hv : DAt w p d sa sc ca cc) (h : 0 ≤ a ∧ (d.S.length : Int) ≤ a) : Calls Try.prog 29 #[.pointer (some ⟨p, 0, none⟩), .int .i64 a] w fun e w' => e = .returned (.bool false) ∧ Fr0 w w' := by
  have c0 : decide (0 ≤ a) = true := decide_eq_true h.1
  have c1 : decide (a < (d.S.length : Int)) = false := decide_eq_false (by omega)
  have hm := hv.v.sm
  have hsn := hv.v.sn
  have HC := Lib.hid (formed_calls d sa sc ca cc w hok hv.v)
  have HB := Lib.hid hv.blk
  clear hv hok h
  obtain ⟨SS, CC, ff, dd⟩ := d
  dsimp only [dval] at *
  have q0 : w.cell? ⟨p, 0, none⟩ = some (.slice sa SS.length sc) := Bk.cell HB.out 0
  generalize formedB _ = FB at *
  go_enter Try.func29, Try.ntmps29
  go_wp2_with (first | ((with_reducible show wpList _ _ _ ({ dst := _, op := Op.load 25 _, type := _, pos := _, after := _, guard := _ } :: _) _ _); refine wpList_load_row_g (by rfl) 25 _ rfl p rfl 25 _ (0, 0) _ HB.out Try.underlying25 rfl info_d ?_) | (go_at_call 16; (with_reducible refine HC.out.mono ?_); rintro e w2 ⟨rfl, hf2⟩; have HF2 := Lib.hid hf2; clear hf2))
  go_ret
  exact ⟨rfl, Fr.refl _ _⟩

set_option maxHeartbeats 2000000 in
set_option maxRecDepth 100000 in
theorem right_in (p : Nat) (a : Int) (d : Dk) (sa : Option Addr) (sc : Nat) (ca : Option Addr) (cc : Nat) (w : World) (hok : d.ok) (hv : DAt w p d sa sc ca cc) (h : 0 ≤ a ∧ a < d.S.length) : Calls Try.prog 29 #[.pointer (some ⟨p, 0, none⟩), .int .i64 a] w fun e w' => e = .returned (.bool (formedB d)) ∧ Fr0 w w' := by
  have c0 : decide (0 ≤ a) = true := decide_eq_true h.1
  have c1 : decide (a < (d.S.length : Int)) = true := decide_eq_true h.2
  have hm := hv.v.sm
  have hsn := hv.v.sn
  have HC := Lib.hid (formed_calls d sa sc ca cc w hok hv.v)
  have HB := Lib.hid hv.blk
  clear hv hok h
  obtain ⟨SS, CC, ff, dd⟩ := d
  dsimp only [dval] at *
  have q0 : w.cell? ⟨p, 0, none⟩ = some (.slice sa SS.length sc) := Bk.cell HB.out 0
  generalize formedB _ = FB at *
  go_enter Try.func29, Try.ntmps29
  go_wp2_with (first | ((with_reducible show wpList _ _ _ ({ dst := _, op := Op.load 25 _, type := _, pos := _, after := _, guard := _ } :: _) _ _); refine wpList_load_row_g (by rfl) 25 _ rfl p rfl 25 _ (0, 0) _ HB.out Try.underlying25 rfl info_d ?_) | (go_at_call 16; (with_reducible refine HC.out.mono ?_); rintro e w2 ⟨rfl, hf2⟩; have HF2 := Lib.hid hf2; clear hf2))
  go_ret
  exact ⟨rfl, HF2.out⟩

/-- RIGHT: what disk.right answers. -/
theorem right_calls (p : Nat) (a : Int) (d : Dk) (sa : Option Addr) (sc : Nat) (ca : Option Addr) (cc : Nat) (w : World) (hok : d.ok) (hv : DAt w p d sa sc ca cc) : Calls Try.prog 29 #[.pointer (some ⟨p, 0, none⟩), .int .i64 a] w fun e w' => e = .returned (.bool (rightB d a)) ∧ Fr0 w w' := by
  unfold rightB
  by_cases h0 : 0 ≤ a
  · by_cases h1 : a < d.S.length
    · rw [thereB_true.2 ⟨h0, h1⟩, Bool.true_and]; exact right_in p a d sa sc ca cc w hok hv ⟨h0, h1⟩
    · rw [thereB_false.2 (by omega), Bool.false_and]; exact right_out p a d sa sc ca cc w hok hv ⟨h0, by omega⟩
  · rw [thereB_false.2 (by omega), Bool.false_and]; exact right_neg p a d sa sc ca cc w hok hv (by omega)

end Go.Proofs.Ytboakipfhidkmaa.DiskForm
