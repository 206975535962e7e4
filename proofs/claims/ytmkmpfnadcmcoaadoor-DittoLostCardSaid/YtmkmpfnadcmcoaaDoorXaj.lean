/- The theorems that the claim uses, text behind text (part 10). -/
import Derived.Test.YtmkmpfnadcmcoaaDoorXaa
import Derived.Test.YtmkmpfnadcmcoaaDoorXab
import Derived.Test.YtmkmpfnadcmcoaaDoorXac
import Derived.Test.YtmkmpfnadcmcoaaDoorXad
import Derived.Test.YtmkmpfnadcmcoaaDoorXai
import Derived.RangeFuncNested
import Derived.RangeFuncBound
import Derived.RangeFuncCalls
import Derived.RangeFuncLeaves
import Derived.Shelf.Abstract
import Derived.Shelf.RegionOpen
import Derived.OwnWalkIn
import Derived.TacticsInMore
import Derived.LoopNIn
import Derived.LoopIn
set_option maxRecDepth 100000
set_option linter.unusedVariables false
set_option linter.unusedSimpArgs false
namespace Go.Proofs.YtmkmpfnadcmcoaaDoor.RmAsk
open Go Go.RowKit Go.Proofs.YtmkmpfnadcmcoaaDoor.K Go.Proofs.YtmkmpfnadcmcoaaDoor.EqKit Go.Proofs.YtmkmpfnadcmcoaaDoor.ArrKit Go.Proofs.YtmkmpfnadcmcoaaDoor.HeldKit Go.Proofs.YtmkmpfnadcmcoaaDoor.GKit Go.Proofs.YtmkmpfnadcmcoaaDoor.GRow Go.Proofs.YtmkmpfnadcmcoaaDoor.DiskKit Go.Proofs.YtmkmpfnadcmcoaaDoor.RmKit Go.Proofs.YtmkmpfnadcmcoaaDoor.MapKit Go.Proofs.YtmkmpfnadcmcoaaDoor.RmRight Go.Proofs.YtmkmpfnadcmcoaaDoor.RmTab
def idxI (f : Int × Int → Bool) (l : List (Int × Int)) : Int := if l.findIdx f < l.length then (l.findIdx f : Int) else -1
theorem idxI_at {f : Int × Int → Bool} {l : List (Int × Int)} {k : Nat} (hk : k < l.length) (h : f l[k] = true) (hn : ∀ q (hq : q < k), f (l[q]'(by omega)) = false) : idxI f l = k := by
  have e : l.findIdx f = k := by
    rw [List.findIdx_eq hk]
    exact ⟨h, fun q hq => by simpa using hn q hq⟩
  unfold idxI
  rw [e, if_pos hk]
theorem idxI_no {f : Int × Int → Bool} {l : List (Int × Int)} (hn : ∀ q (hq : q < l.length), f l[q] = false) : idxI f l = -1 := by
  have e : l.findIdx f = l.length := by
    rw [List.findIdx_eq_length]
    intro x hx
    obtain ⟨q, hq, rfl⟩ := List.mem_iff_getElem.1 hx
    exact hn q hq
  unfold idxI
  rw [e, if_neg (Nat.lt_irrefl _)]
theorem idxI_cases (f : Int × Int → Bool) (l : List (Int × Int)) : (idxI f l = -1 ∧ ∀ x ∈ l, f x = false) ∨ ∃ k : Nat, ∃ hk : k < l.length, idxI f l = k ∧ f l[k] = true ∧ ∀ q (hq : q < k), f (l[q]'(by omega)) = false := by
  by_cases h : l.findIdx f < l.length
  · refine .inr ⟨l.findIdx f, h, by unfold idxI; rw [if_pos h], List.findIdx_getElem, fun q hq => ?_⟩
    have := List.not_of_lt_findIdx hq
    simpa using this
  · refine .inl ⟨by unfold idxI; rw [if_neg h], fun x hx => ?_⟩
    have e : l.findIdx f = l.length := Nat.le_antisymm List.findIdx_le_length (by omega)
    have := (List.findIdx_eq_length.1 e) x hx
    simpa using this

set_option maxHeartbeats 2000000 in
set_option maxRecDepth 100000 in
theorem pclo_calls (p : Int × Int) (bx : Nat) (n : Int) (w : World) (hb : Bk w bx #[.int .i64 n] 3) : Calls Tryd.prog 64 #[.agg (PR p).toArray, .pointer (some ⟨bx, 0, none⟩)] w fun e w' => e = .returned (.bool (p.1 == n)) ∧ Fr0 w w' := by
  have hb2 : Bk (w.alloc (.cells (PR p).toArray 98)) bx #[.int .i64 n] 3 := Bk.alloc hb _
  have c0 : (w.alloc (.cells (PR p).toArray 98)).cell? ⟨w.heap.size, 0, none⟩ = some (.int .i64 p.1) := (Bk.cell (Bk.new w _) 0).trans (PR_0 p.1 p.2)
  have c1 : (w.alloc (.cells (PR p).toArray 98)).cell? ⟨bx, 0, none⟩ = some (.int .i64 n) := Bk.cell hb2 0
  have hP : (PR p).toArray[0]? = some (.int .i64 p.1) := PR_0 p.1 p.2
  generalize (PR p).toArray = Y at *
  generalize p.1 = q at *
  clear hb hb2
  go_enter Tryd.func64, Tryd.ntmps64
  go_wp2
  go_ret
  exact ⟨rfl, Fr.alloc (Fr.refl _ _) _⟩

set_option maxHeartbeats 2000000 in
set_option maxRecDepth 100000 in
theorem sclo_calls (p : Int × Int) (bx : Nat) (n : Int) (w : World) (hb : Bk w bx #[.int .i64 n] 3) : Calls Tryd.prog 62 #[.agg (PR p).toArray, .pointer (some ⟨bx, 0, none⟩)] w fun e w' => e = .returned (.bool (p.2 == n)) ∧ Fr0 w w' := by
  have hb2 : Bk (w.alloc (.cells (PR p).toArray 98)) bx #[.int .i64 n] 3 := Bk.alloc hb _
  have c0 : (w.alloc (.cells (PR p).toArray 98)).cell? ⟨w.heap.size, 1, none⟩ = some (.int .i64 p.2) := (Bk.cell (Bk.new w _) 1).trans (PR_1 p.1 p.2)
  have c1 : (w.alloc (.cells (PR p).toArray 98)).cell? ⟨bx, 0, none⟩ = some (.int .i64 n) := Bk.cell hb2 0
  have hP : (PR p).toArray[1]? = some (.int .i64 p.2) := PR_1 p.1 p.2
  generalize (PR p).toArray = Y at *
  generalize p.2 = q at *
  clear hb hb2
  go_enter Tryd.func62, Tryd.ntmps62
  go_wp2
  go_ret
  exact ⟨rfl, Fr.alloc (Fr.refl _ _) _⟩

set_option maxHeartbeats 2000000 in
set_option maxRecDepth 100000 in
theorem pidx_calls (l : List (Int × Int)) (a : Option Addr) (c bx : Nat) (n : Int) (w : World) (hr : RdP w a l) (hlen : l.length ≤ 8796093022208) (hb : Bk w bx #[.int .i64 n] 3) : Calls Tryd.prog 63 #[.slice a l.length c, .func (Fn.func 64) #[] #[.pointer (some ⟨bx, 0, none⟩)]] w fun e w' => e = .returned (.int .i64 (idxI (fun p => p.1 == n) l)) ∧ Fr0 w w' := by
  have HRD := Lib.hid hr
  have HB := Lib.hid hb
  clear hr hb
  go_enter Tryd.func63, Tryd.ntmps63
  go_wp2
  go_loopw [8] (fun jj W => ∃ j : Nat, j ≤ l.length ∧ jj = .int .i64 j ∧ (∀ q (hq : q < j) (hq2 : q < l.length), (l[q].1 == n) = false) ∧ Fr0 w W) (fun jj _ => l.length - (intOf jj).toNat)
  case atStart => exact ⟨0, Nat.zero_le _, rfl, fun q hq => by omega, Fr.refl _ _⟩
  case round =>
    obtain ⟨j, hj, rfl, hno, hF⟩ := hrel
    have HNO := Lib.hid hno
    have HF := Lib.hid hF
    clear hno hF
    by_cases hjl : j < l.length
    · obtain ⟨b2, o2, rfl, hat⟩ := RdP.form HRD.out hjl
      have HRG := Lib.hid (hat _ (HRD.out.keep HF.out)).1
      have HCL := Lib.hid (pclo_calls l[j] bx n wr (HF.out.keep HB.out (fun h => h)))
      have HQ : Hid (∀ v, (l[j].1 == n) = v → (l[j].1 == n) = v) := Lib.hid (fun v h => h)
      clear hat
      cases hv : (l[j].1 == n) with
      | true =>
        have HI := Lib.hid (idxI_at (f := fun p => p.1 == n) hjl hv (fun q hq => HNO.out q hq (by omega)))
        rw [hv] at HCL
        clear hv HQ
        generalize l[j] = p at *
        go_wp2_with (first | ((with_reducible show wpList _ _ _ ({ dst := _, op := Op.load 98 _, type := _, pos := _, after := _, guard := _ } :: _) _ _); refine wpList_load_mid rfl 98 _ rfl b2 (o2 + j * 2) rfl (PR p) _ HRG.out Tryd.underlying98 rfl (info_pr _) ?_) | (go_at_call 64; (with_reducible refine (HCL.out).mono ?_); rintro e w7 ⟨rfl, hf7⟩; have HF7 := Lib.hid (HF.out.then0 hf7); clear hf7))
        go_ret
        exact ⟨by rw [HI.out]; rfl, HF7.out⟩
      | false =>
        have HV := Lib.hid hv
        rw [hv] at HCL
        clear hv HQ
        generalize hp : l[j] = p at *
        have HP := Lib.hid hp
        clear hp
        go_wp2_with (first | ((with_reducible show wpList _ _ _ ({ dst := _, op := Op.load 98 _, type := _, pos := _, after := _, guard := _ } :: _) _ _); refine wpList_load_mid rfl 98 _ rfl b2 (o2 + j * 2) rfl (PR p) _ HRG.out Tryd.underlying98 rfl (info_pr _) ?_) | (go_at_call 64; (with_reducible refine (HCL.out).mono ?_); rintro e w7 ⟨rfl, hf7⟩; have HF7 := Lib.hid (HF.out.then0 hf7); clear hf7))
        go_roundw
        case rel => exact ⟨j + 1, by omega, by go_num, fun q hq hq2 => by
            rcases Nat.lt_or_ge q j with h | h
            · exact HNO.out q h hq2
            · obtain rfl : q = j := by omega
              rw [HP.out]; exact HV.out, HF7.out⟩
        case measure => simp [intOf]; omega
    · have HI := Lib.hid (idxI_no (f := fun p => p.1 == n) (l := l) (fun q hq => HNO.out q (by omega) hq))
      go_wp2
      go_ret
      exact ⟨by rw [HI.out]; rfl, HF.out⟩

set_option maxHeartbeats 2000000 in
set_option maxRecDepth 100000 in
theorem sidx_calls (l : List (Int × Int)) (a : Option Addr) (c bx : Nat) (n : Int) (w : World) (hr : RdP w a l) (hlen : l.length ≤ 8796093022208) (hb : Bk w bx #[.int .i64 n] 3) : Calls Tryd.prog 63 #[.slice a l.length c, .func (Fn.func 62) #[] #[.pointer (some ⟨bx, 0, none⟩)]] w fun e w' => e = .returned (.int .i64 (idxI (fun p => p.2 == n) l)) ∧ Fr0 w w' := by
  have HRD := Lib.hid hr
  have HB := Lib.hid hb
  clear hr hb
  go_enter Tryd.func63, Tryd.ntmps63
  go_wp2
  go_loopw [8] (fun jj W => ∃ j : Nat, j ≤ l.length ∧ jj = .int .i64 j ∧ (∀ q (hq : q < j) (hq2 : q < l.length), (l[q].2 == n) = false) ∧ Fr0 w W) (fun jj _ => l.length - (intOf jj).toNat)
  case atStart => exact ⟨0, Nat.zero_le _, rfl, fun q hq => by omega, Fr.refl _ _⟩
  case round =>
    obtain ⟨j, hj, rfl, hno, hF⟩ := hrel
    have HNO := Lib.hid hno
    have HF := Lib.hid hF
    clear hno hF
    by_cases hjl : j < l.length
    · obtain ⟨b2, o2, rfl, hat⟩ := RdP.form HRD.out hjl
      have HRG := Lib.hid (hat _ (HRD.out.keep HF.out)).1
      have HCL := Lib.hid (sclo_calls l[j] bx n wr (HF.out.keep HB.out (fun h => h)))
      have HQ : Hid (∀ v, (l[j].2 == n) = v → (l[j].2 == n) = v) := Lib.hid (fun v h => h)
      clear hat
      cases hv : (l[j].2 == n) with
      | true =>
        have HI := Lib.hid (idxI_at (f := fun p => p.2 == n) hjl hv (fun q hq => HNO.out q hq (by omega)))
        rw [hv] at HCL
        clear hv HQ
        generalize l[j] = p at *
        go_wp2_with (first | ((with_reducible show wpList _ _ _ ({ dst := _, op := Op.load 98 _, type := _, pos := _, after := _, guard := _ } :: _) _ _); refine wpList_load_mid rfl 98 _ rfl b2 (o2 + j * 2) rfl (PR p) _ HRG.out Tryd.underlying98 rfl (info_pr _) ?_) | (go_at_call 62; (with_reducible refine (HCL.out).mono ?_); rintro e w7 ⟨rfl, hf7⟩; have HF7 := Lib.hid (HF.out.then0 hf7); clear hf7))
        go_ret
        exact ⟨by rw [HI.out]; rfl, HF7.out⟩
      | false =>
        have HV := Lib.hid hv
        rw [hv] at HCL
        clear hv HQ
        generalize hp : l[j] = p at *
        have HP := Lib.hid hp
        clear hp
        go_wp2_with (first | ((with_reducible show wpList _ _ _ ({ dst := _, op := Op.load 98 _, type := _, pos := _, after := _, guard := _ } :: _) _ _); refine wpList_load_mid rfl 98 _ rfl b2 (o2 + j * 2) rfl (PR p) _ HRG.out Tryd.underlying98 rfl (info_pr _) ?_) | (go_at_call 62; (with_reducible refine (HCL.out).mono ?_); rintro e w7 ⟨rfl, hf7⟩; have HF7 := Lib.hid (HF.out.then0 hf7); clear hf7))
        go_roundw
        case rel => exact ⟨j + 1, by omega, by go_num, fun q hq hq2 => by
            rcases Nat.lt_or_ge q j with h | h
            · exact HNO.out q h hq2
            · obtain rfl : q = j := by omega
              rw [HP.out]; exact HV.out, HF7.out⟩
        case measure => simp [intOf]; omega
    · have HI := Lib.hid (idxI_no (f := fun p => p.2 == n) (l := l) (fun q hq => HNO.out q (by omega) hq))
      go_wp2
      go_ret
      exact ⟨by rw [HI.out]; rfl, HF.out⟩

theorem idxI_ge (f : Int × Int → Bool) (l : List (Int × Int)) : decide (0 ≤ idxI f l) = l.any f := by
  rcases idxI_cases f l with ⟨h1, h2⟩ | ⟨k, hk, h1, h2, h3⟩
  · rw [h1, decide_eq_false (by omega)]
    symm
    rw [List.any_eq_false]
    exact fun x hx => by simp [h2 x hx]
  · rw [h1, decide_eq_true (by omega)]
    symm
    rw [List.any_eq_true]
    exact ⟨_, List.getElem_mem hk, h2⟩
set_option maxHeartbeats 2000000 in
set_option maxRecDepth 100000 in
theorem scont_calls (l : List (Int × Int)) (a : Option Addr) (c bx : Nat) (n : Int) (w : World) (hr : RdP w a l) (hlen : l.length ≤ 8796093022208) (hb : Bk w bx #[.int .i64 n] 3) : Calls Tryd.prog 61 #[.slice a l.length c, .func (Fn.func 62) #[] #[.pointer (some ⟨bx, 0, none⟩)]] w fun e w' => e = .returned (.bool (l.any (fun p => p.2 == n))) ∧ Fr0 w w' := by
  have HI := Lib.hid (sidx_calls l a c bx n w hr hlen hb)
  have HG := Lib.hid (idxI_ge (fun p => p.2 == n) l)
  clear hr hlen hb
  generalize idxI (fun p => p.2 == n) l = r at *
  go_enter Tryd.func61, Tryd.ntmps61
  go_wp2_with (go_at_call 63; (with_reducible refine HI.out.mono ?_); rintro e w1 ⟨rfl, hf⟩; have HF1 := Lib.hid hf; clear hf)
  go_ret
  exact ⟨by rw [← HG.out]; rfl, HF1.out⟩
/-- the place of a sector's pair -/
def plc (m : Rm) (n : Int) : Int := idxI (fun p => p.1 == n) m.ps
set_option maxHeartbeats 2000000 in
set_option maxRecDepth 100000 in
theorem place_calls (m : Rm) (a : Option Addr) (c : Nat) (n : Int) (w : World) (hv : RV w m a c) (hlen : m.ps.length ≤ 8796093022208) : Calls Tryd.prog 46 #[.agg (rval m a c), .int .i64 n] w fun e w' => e = .returned (.int .i64 (plc m n)) ∧ Fr0 w w' := by
  have hs1 : (w.alloc (.cells (rval m a c) 32)).heap.size = w.heap.size + 1 := by simp
  have hx : Bk ((w.alloc (.cells (rval m a c) 32)).alloc (.cells #[.int .i64 n] 3)) w.heap.size (rval m a c) 32 := Bk.alloc (Bk.new w _) _
  have c1 : ((w.alloc (.cells (rval m a c) 32)).alloc (.cells #[.int .i64 n] 3)).cell? ⟨w.heap.size, 1, none⟩ = some (.slice a m.ps.length c) := Bk.cell hx 1
  have hp1 : (rval m a c)[1]? = some (.slice a m.ps.length c) := rfl
  have HB : Hid (Bk ((w.alloc (.cells (rval m a c) 32)).alloc (.cells #[.int .i64 n] 3)) (w.heap.size + 1) #[.int .i64 n] 3) := Lib.hid (by have := Bk.new (w.alloc (.cells (rval m a c) 32)) (.cells #[.int .i64 n] 3); rwa [hs1] at this)
  have HF : Hid (Fr0 w ((w.alloc (.cells (rval m a c) 32)).alloc (.cells #[.int .i64 n] 3))) := Lib.hid (Fr.alloc (Fr.alloc (Fr.refl _ _) _) _)
  have HI := Lib.hid (pidx_calls m.ps a c (w.heap.size + 1) n _ (hv.rd.keep HF.out) hlen HB.out)
  have HPL : Hid (plc m n = idxI (fun p => p.1 == n) m.ps) := Lib.hid rfl
  clear hx hs1 hv
  generalize rval m a c = X at *
  generalize idxI (fun p => p.1 == n) m.ps = r at *
  rw [HPL.out]
  go_enter Tryd.func46, Tryd.ntmps46
  go_wp2_with (go_at_call 63; (with_reducible refine HI.out.mono ?_); rintro e w1 ⟨rfl, hf⟩; have HF1 := Lib.hid (HF.out.then0 hf); clear hf)
  go_ret
  exact ⟨rfl, HF1.out⟩
/-- the sector that stands for another one -/
def atI (m : Rm) (n : Int) : Int := match m.ps.find? (fun p => p.1 == n) with | some p => p.2 | none => n
theorem atI_no {m : Rm} {n : Int} (h : ∀ x ∈ m.ps, (x.1 == n) = false) : atI m n = n := by
  unfold atI
  rw [List.find?_eq_none.2 (fun x hx => by simp [h x hx])]
theorem atI_at {m : Rm} {n : Int} {k : Nat} (hk : k < m.ps.length) (h : (m.ps[k].1 == n) = true) (hn : ∀ q (hq : q < k), ((m.ps[q]'(by omega)).1 == n) = false) : atI m n = m.ps[k].2 := by
  unfold atI
  have e : m.ps.find? (fun p => p.1 == n) = some m.ps[k] := by
    rw [List.find?_eq_some_iff_getElem]
    exact ⟨h, k, hk, rfl, fun q hq => by simpa using hn q hq⟩
  rw [e]
set_option maxHeartbeats 2000000 in
set_option maxRecDepth 100000 in
theorem at_calls (m : Rm) (a : Option Addr) (c : Nat) (n : Int) (w : World) (hv : RV w m a c) (hlen : m.ps.length ≤ 8796093022208) : Calls Tryd.prog 33 #[.agg (rval m a c), .int .i64 n] w fun e w' => e = .returned (.int .i64 (atI m n)) ∧ Fr0 w w' := by
  have hx : Bk (w.alloc (.cells (rval m a c) 32)) w.heap.size (rval m a c) 32 := Bk.new w _
  have HX := Lib.hid hx
  have HF : Hid (Fr0 w (w.alloc (.cells (rval m a c) 32))) := Lib.hid (Fr.alloc (Fr.refl _ _) _)
  have HI := Lib.hid (place_calls m a c n _ (hv.keep HF.out) hlen)
  have HIN : Hid ((Tryd.prog.info? 32).map (·.size) = some (rval m a c).size) := Lib.hid (info_r _ _)
  have HP1 : Hid ((rval m a c)[1]? = some (.slice a m.ps.length c)) := Lib.hid rfl
  have HV := Lib.hid hv
  clear hx hv
  rcases idxI_cases (fun p => p.1 == n) m.ps with ⟨h1, h2⟩ | ⟨k, hk, h1, h2, h3⟩
  · rw [show plc m n = -1 from h1] at HI
    rw [atI_no h2]
    clear h1 h2
    generalize rval m a c = X at *
    go_enter Tryd.func33, Tryd.ntmps33
    go_wp2_with (first | ((with_reducible show wpList _ _ _ ({ dst := _, op := Op.load 32 _, type := _, pos := _, after := _, guard := _ } :: _) _ _); refine wpList_load_row_g (by rfl) 32 _ rfl w.heap.size rfl 32 X (0, 0) _ HX.out Tryd.underlying32 rfl HIN.out ?_) | (go_at_call 46; (with_reducible refine HI.out.mono ?_); rintro e w1 ⟨rfl, hf⟩; have HF1 := Lib.hid (HF.out.then0 hf); clear hf))
    go_ret
    exact ⟨rfl, HF1.out⟩
  · rw [show plc m n = k from h1] at HI
    rw [atI_at hk h2 h3]
    obtain ⟨b2, o2, rfl, hat⟩ := RdP.form HV.out.rd hk
    have HAT := Lib.hid hat
    clear h1 h2 h3 hat
    generalize rval m (some ⟨b2, o2, none⟩) c = X at *
    go_enter Tryd.func33, Tryd.ntmps33
    go_wp2_with (first | ((with_reducible show wpList _ _ _ ({ dst := _, op := Op.load 32 _, type := _, pos := _, after := _, guard := _ } :: _) _ _); refine wpList_load_row_g (by rfl) 32 _ rfl w.heap.size rfl 32 X (0, 0) _ HX.out Tryd.underlying32 rfl HIN.out ?_) | (go_at_call 46; (with_reducible refine HI.out.mono ?_); rintro e w1 ⟨rfl, hf⟩; have HF1 := Lib.hid (HF.out.then0 hf); have cx : w1.cell? ⟨w.heap.size, 1, none⟩ = some (.slice (some ⟨b2, o2, none⟩) m.ps.length c) := (Bk.cell (hf.keep HX.out (fun h => h)) 1).trans HP1.out; have cq : w1.cell? ⟨b2, o2 + k * 2 + 1, none⟩ = some (.int .i64 m.ps[k].2) := (HAT.out _ (HV.out.rd.keep HF1.out)).2.2; clear hf))
    go_ret
    exact ⟨rfl, HF1.out⟩
end Go.Proofs.YtmkmpfnadcmcoaaDoor.RmAsk
namespace Go.Proofs.YtmkmpfnadcmcoaaDoor.DiskSame
open Go Go.RowKit Go.Proofs.YtmkmpfnadcmcoaaDoor.K Go.Proofs.YtmkmpfnadcmcoaaDoor.EqKit Go.Proofs.YtmkmpfnadcmcoaaDoor.ArrKit Go.Proofs.YtmkmpfnadcmcoaaDoor.HeldKit Go.Proofs.YtmkmpfnadcmcoaaDoor.GKit Go.Proofs.YtmkmpfnadcmcoaaDoor.GRow Go.Proofs.YtmkmpfnadcmcoaaDoor.DiskKit Go.Proofs.YtmkmpfnadcmcoaaDoor.DiskAsk Go.Proofs.YtmkmpfnadcmcoaaDoor.DiskForm Go.Proofs.YtmkmpfnadcmcoaaDoor.DiskAct Go.Proofs.YtmkmpfnadcmcoaaDoor.DiskNew
theorem run_neq_op {P : Program} {o : Oper} {a : Act} {x y : Operand} {t u : TypeId} {X Y : Array Value} {b : Bool} (ho : o.op = .binOp .neq t x y u) (hx : a.eval x = .agg X) (hy : a.eval y = .agg Y) (hm : P.eqGuardType P.depth t = false)
    (heq : ∀ W, (Op.equalIn 10000 t (.agg X) (.agg Y)).run P W = .ok b W) (w : World) : (execOp a.eval o).run P w = .ok (.value (.bool (!b))) w := by
  unfold execOp
  simp only [ho, hx, hy, Sem.run_bind, run_neq_struct, heq, Result.andThen, Sem.run_pure, run_eqGuard_agg _ _ _ _ _ _ _ hm]
theorem cells_b : Tryd.prog.cellsOf 22 = 128 := by kernel_rfl
theorem guard_b : Tryd.prog.eqGuardType Tryd.prog.depth 22 = false := by kernel_rfl
end Go.Proofs.YtmkmpfnadcmcoaaDoor.DiskSame
namespace Go.Proofs.YtmkmpfnadcmcoaaDoor.RmSame
open Go Go.RowKit Go.Proofs.YtmkmpfnadcmcoaaDoor.K Go.Proofs.YtmkmpfnadcmcoaaDoor.EqKit Go.Proofs.YtmkmpfnadcmcoaaDoor.ArrKit Go.Proofs.YtmkmpfnadcmcoaaDoor.HeldKit Go.Proofs.YtmkmpfnadcmcoaaDoor.GKit Go.Proofs.YtmkmpfnadcmcoaaDoor.GRow Go.Proofs.YtmkmpfnadcmcoaaDoor.DiskKit Go.Proofs.YtmkmpfnadcmcoaaDoor.RmKit Go.Proofs.YtmkmpfnadcmcoaaDoor.MapKit Go.Proofs.YtmkmpfnadcmcoaaDoor.RmRight Go.Proofs.YtmkmpfnadcmcoaaDoor.RmTab Go.Proofs.YtmkmpfnadcmcoaaDoor.RmAsk Go.Proofs.YtmkmpfnadcmcoaaDoor.DiskSame
theorem infoPr : (Tryd.prog.info? 98).map (fun i => (i.zero, i.size, i.bytes)) = some (some (.agg PZ2), 2, 16) := by kernel_rfl
def RZ : Array Value := RC 0 (.slice none 0 0)
theorem zero_r (W : World) : (zeroValue 32).run Tryd.prog W = .ok (.agg RZ) W := by kernel_rfl
theorem RC_all (g : Int) (a : Option Addr) (n c : Nat) : (RC g (.slice a n c)).all (·.oneCell') = true := by simp [RC, Value.oneCell']
abbrev OwnP (w : World) (g cap : Nat) (cur : Array Value) (l : List (Int × Int)) : Prop := OwnG PR 2 98 w g cap cur l
end Go.Proofs.YtmkmpfnadcmcoaaDoor.RmSame
namespace Go.Proofs.YtmkmpfnadcmcoaaDoor.RfKit
open Go Go.RowKit Go.Proofs.YtmkmpfnadcmcoaaDoor.K Go.Proofs.YtmkmpfnadcmcoaaDoor.ArrKit Go.Proofs.YtmkmpfnadcmcoaaDoor.HeldKit Go.Proofs.YtmkmpfnadcmcoaaDoor.GKit Go.Proofs.YtmkmpfnadcmcoaaDoor.GRow
section
variable {F : Fence} {n : Nat} {P : Program} {ops : Array Oper} {rest : List Oper} {o : Oper} {a : Act} {w : World} {Q : Exit → Act → World → Prop}
theorem wpListIn_load_mid (hgd : o.guard = none) (ty : TypeId) (x : Operand) (ho : o.op = .load ty x)
    (b of : Nat) (hx : a.eval x = .pointer (some ⟨b, of, none⟩)) (cs : List Value) (d : TypeDesc) (hc : w.rangeAt b of cs)
    (hu : P.underlying ty = some d) (hd : d.isRow = true) (hi : (P.info? ty).map (·.size) = some cs.length)
    (h : wpListIn F n P ops Q rest (a.put o.dst (.agg cs.toArray)) w) : wpListIn F n P ops Q (o :: rest) a w := by
  refine wpListIn_plain hgd fun K hK => ?_
  unfold Oper.wpIn
  refine ⟨?_, ?_⟩
  · simp [Oper.about, ho]
  · rw [Oper.semAt_plain F _ _ (by rw [ho]; intro c hc; cases hc)]
    unfold execOp
    simp only [ho, hx, Instr.loadAt, Instr.sureAddr, Sem.run_bind, Sem.run_pure, Result.andThen_ok, run_loadVar_mid w b of ty cs d hc hu hd hi]
    exact hK _ _ h
theorem wpListIn_store_row (hgd : o.guard = none) (ty : TypeId) (x y : Operand) (ho : o.op = .store ty x y)
    (g : Nat) (cells : Array Value) (hx : a.eval x = .pointer (some ⟨g, 0, none⟩)) (hy : a.eval y = .agg cells)
    (t : TypeId) (old : Array Value) (hg : w.heap[g]? = some (.cells old t (0, 0))) (hi : (P.info? ty).map (·.size) = some cells.size)
    (hold : old.size = cells.size) (h1 : cells.all (·.oneCell') = true)
    (h : wpListIn F n P ops Q rest (a.put o.dst undef) (w.setRow g cells)) : wpListIn F n P ops Q (o :: rest) a w := by
  refine wpListIn_plain hgd fun K hK => ?_
  unfold Oper.wpIn
  refine ⟨?_, ?_⟩
  · simp [Oper.about, ho]
  · rw [Oper.semAt_plain F _ _ (by rw [ho]; intro c hc; cases hc)]
    unfold execOp
    simp only [ho, hx, hy, Instr.storeAt, Instr.sureAddr, Sem.run_bind, Sem.run_pure, Result.andThen_ok, run_storeVar_row w g t ty old cells hg hi hold h1]
    exact hK _ _ h
end
def upto {α : Type} (f : Nat → α) (k : Nat) : List α := (List.range k).map f
theorem upto_succ {α : Type} (f : Nat → α) (k : Nat) : upto f (k + 1) = upto f k ++ [f k] := by simp [upto, List.range_succ]
theorem upto_length {α : Type} (f : Nat → α) (k : Nat) : (upto f k).length = k := by simp [upto]
theorem below_own {n₀ : Nat} {W₁ W W' : World} {row : Option Nat} (h : Below n₀ W₁ W) (hg : W.grownBy W' row) (hn : n₀ ≤ W₁.heap.size) (hr : ∀ r, row = some r → n₀ ≤ r ∧ ∃ o : Obj, W.heap[r]? = some o ∧ o.isCells = false) : Below n₀ W₁ W' :=
  h.grown hg (Nat.le_trans hn h.size) (fun k e => (hr k e).1)
theorem grownBy_row (w : World) (g : Nat) (cs : Array Value) : w.grownBy (w.setRow g cs) (some g) := ⟨rfl, rfl, rfl, by rw [size_setRow]; exact Nat.le_refl _, fun k _ hk => setRow_other w g k _ (fun e => hk (by rw [e]))⟩
theorem below_row {n₀ : Nat} {w w1 : World} (h : Below n₀ w w1) (g : Nat) (cs : Array Value) (hg : n₀ ≤ g) : Below n₀ w (w1.setRow g cs) :=
  ⟨h.os, h.tape, h.output, by rw [size_setRow]; exact h.size, fun i hi => (setRow_other w1 g i cs (by omega)).trans (h.block i hi)⟩
theorem below_heap {n₀ : Nat} {w w1 : World} (h : Below n₀ w w1) {g : Nat} {o : Obj} (hg : w.heap[g]? = some o) (hn : g < n₀) : w1.heap[g]? = some o := (h.block g hn).trans hg
end Go.Proofs.YtmkmpfnadcmcoaaDoor.RfKit
namespace Go.Proofs.YtmkmpfnadcmcoaaDoor.DiskBack
open Go Go.RowKit Go.Proofs.YtmkmpfnadcmcoaaDoor.K Go.Proofs.YtmkmpfnadcmcoaaDoor.EqKit Go.Proofs.YtmkmpfnadcmcoaaDoor.ArrKit Go.Proofs.YtmkmpfnadcmcoaaDoor.HeldKit Go.Proofs.YtmkmpfnadcmcoaaDoor.GKit Go.Proofs.YtmkmpfnadcmcoaaDoor.GRow Go.Proofs.YtmkmpfnadcmcoaaDoor.DiskKit Go.Proofs.YtmkmpfnadcmcoaaDoor.RfKit Go.Proofs.YtmkmpfnadcmcoaaDoor.DiskAsk Go.Proofs.YtmkmpfnadcmcoaaDoor.DiskForm Go.Proofs.YtmkmpfnadcmcoaaDoor.DiskAct Go.Proofs.YtmkmpfnadcmcoaaDoor.DiskNew Go.Proofs.YtmkmpfnadcmcoaaDoor.DiskCopy Go.Proofs.YtmkmpfnadcmcoaaDoor.DiskRRead Go.Shelf
attribute [local go_sem] Oper.semAt_some
/-- what comes in round j -/
abbrev WX := { x : Nat × Wri // x.2.ok }
theorem getD_ok {C : List Wri} (h : ∀ x ∈ C, x.ok) (i : Nat) : (C.getD i ⟨0, Z128⟩).ok := by
  rw [List.getD_eq_getElem?_getD]
  by_cases hi : i < C.length
  · rw [List.getElem?_eq_getElem hi]; exact h _ (List.getElem_mem hi)
  · rw [List.getElem?_eq_none (by omega)]; exact ⟨by simp [Z128], by decide⟩
def fB (C : List Wri) (hok : ∀ x ∈ C, x.ok) (j : Nat) : WX := ⟨(C.length - 1 - j, C.getD (C.length - 1 - j) ⟨0, Z128⟩), getD_ok hok _⟩
def encB (x : WX) : Array Value := #[.int .i64 (x.1.1 : Int), .agg x.1.2.cells.toArray]
/-- between two rounds -/
def BRel (C : List Wri) (hok : ∀ x ∈ C, x.ok) (J : List WX → World → Prop) (n₀ : Nat) (W : World) (i : Value) (wr : World) : Prop :=
  (∃ k m : Nat, k + m + 1 = C.length ∧ i = .int .i64 m ∧ J (upto (fB C hok) k) wr ∧ Below n₀ W wr) ∨ (i = .int .i64 (-1) ∧ J (upto (fB C hok) C.length) wr ∧ Below n₀ W wr)
theorem BRel.start (C : List Wri) (hok : ∀ x ∈ C, x.ok) (J : List WX → World → Prop) (n₀ : Nat) (W : World) (h0 : J [] W) : BRel C hok J n₀ W (.int .i64 ((C.length : Int) - 1)) W := by
  cases h : C.length with
  | zero => exact .inr ⟨rfl, by rw [h]; exact h0, Below.refl _ _⟩
  | succ m => exact .inl ⟨0, m, by omega, by rw [show ((m + 1 : Nat) : Int) - 1 = (m : Int) by omega], h0, Below.refl _ _⟩
theorem BRel.next {C : List Wri} {hok : ∀ x ∈ C, x.ok} {J : List WX → World → Prop} {n₀ : Nat} {W wr : World} {k m : Nat} (hk : k + m + 1 = C.length) (hJ : J (upto (fB C hok) k ++ [fB C hok k]) wr) (hB : Below n₀ W wr) : BRel C hok J n₀ W (.int .i64 ((m : Int) - 1)) wr := by
  rw [← upto_succ] at hJ
  cases m with
  | zero => exact .inr ⟨rfl, by rw [show C.length = k + 1 by omega]; exact hJ, hB⟩
  | succ m => exact .inl ⟨k + 1, m, by omega, by rw [show ((m + 1 : Nat) : Int) - 1 = (m : Int) by omega], hJ, hB⟩
theorem fB_at {C : List Wri} (hok : ∀ x ∈ C, x.ok) {k m : Nat} (hk : k + m + 1 = C.length) : fB C hok k = ⟨(m, C[m]), hok _ (List.getElem_mem (by omega))⟩ := by
  have : C.length - 1 - k = m := by omega
  apply Subtype.ext
  show (C.length - 1 - k, C.getD (C.length - 1 - k) ⟨0, Z128⟩) = _
  rw [this, List.getD_eq_getElem?_getD, List.getElem?_eq_getElem (by omega)]; rfl
set_option maxRecDepth 100000 in
set_option maxHeartbeats 2000000 in
theorem back1_in (n : Nat) (hn : 1 ≤ n) (l Bs n₀ : Nat) (ca : Option Addr) (cc : Nat) (C : List Wri) (hok : ∀ x ∈ C, x.ok) (hcn : C.length ≤ cc) (hcm : cc ≤ 9223372036854775807) (J Jx : List WX → World → Prop)
    (hY : ∀ pre x W, J pre W → pre.length < C.length → YieldAt Fence.wide (n - 1) Tryd.prog l (encB x) W fun e W' =>
      (e = .returned (.bool true) ∧ J (pre ++ [x]) W' ∧ Below n₀ W W') ∨ (e = .returned (.bool false) ∧ Jx (pre ++ [x]) W'))
    (W : World) (hBs : W.cell? ⟨Bs, 0, none⟩ = some (.slice ca C.length cc)) (hB0 : Bs < n₀) (hrc : RdC W ca C) (hcb : ∀ a, ca = some a → C ≠ [] → a.block < n₀) (h0 : J [] W) :
    CallsIn Fence.wide n Tryd.prog 66 #[.func (.yield l) #[] #[], .pointer (some ⟨Bs, 0, none⟩)] W fun e W' => (∃ v, e = .returned v) ∧
      ((∃ ys, ys = upto (fB C hok) C.length ∧ J ys W') ∨ (∃ pre, (∃ k, k ≤ C.length ∧ pre = upto (fB C hok) k) ∧ Jx pre W')) := by
  have HOK := Lib.hid hok
  have HRC := Lib.hid hrc
  have HCB := Lib.hid hcb
  clear hrc hcb
  refine callsIn_of_wp Tryd.func66 rfl trivial ?_ rfl
  simp only [Tryd.ntmps66, List.size_toArray, List.length_cons, List.length_nil, Nat.reduceAdd, Nat.reduceSub, Array.replicate_succ, Array.replicate_zero, List.push_toArray, List.append_toArray, List.nil_append, List.cons_append]
  gi_wp2
  gi_loopw [3] (fun i wr => BRel C hok J n₀ W i wr) (fun i _ => (intOf i + 1).toNat)
  case atStart => exact BRel.start C hok J n₀ W h0
  case round =>
    rcases hrel with ⟨k, m, hk, rfl, hJs, hnx⟩ | ⟨rfl, hJs, hnx⟩
    · have hm : m < C.length := by omega
      have hfb : fB C hok k = ⟨(m, C[m]'hm), hok _ (List.getElem_mem hm)⟩ := fB_at hok hk
      obtain ⟨b, o, rfl, hrg⟩ := HRC.out m hm
      have hbn : b < n₀ := HCB.out _ rfl (by intro e; subst e; simp at hm)
      have HRG : Hid (wr.rangeAt b (o + m * 129) C[m].cells) := Lib.hid (fun j u hj => (hnx.cell (p := ⟨b, _, none⟩) hbn).trans (hrg j u hj))
      have HX := Lib.hid (HOK.out _ (List.getElem_mem hm))
      have HIX : Hid ((Tryd.prog.info? 101).map (·.size) = some C[m].cells.length) := Lib.hid (by rw [Wri.leng HX.out, info_w])
      have hbs : wr.cell? ⟨Bs, 0, none⟩ = some (.slice (some ⟨b, o, none⟩) C.length cc) := (hnx.cell (p := ⟨Bs, 0, none⟩) hB0).trans hBs
      obtain ⟨fn, tmps, assign, body, hy, hR⟩ := hY _ ⟨(m, C[m]'hm), hok _ (List.getElem_mem hm)⟩ wr hJs (by rw [upto_length]; omega)
      simp only [encB] at hy
      have HK := Lib.hid hk
      have HFB := Lib.hid hfb
      have HNX := Lib.hid hnx
      clear hk hfb hrg hnx hBs
      gi_wp2_with (first | ((with_reducible show wpListIn _ _ _ _ _ ({ dst := _, op := Op.load 101 _, type := _, pos := _, after := _, guard := _ } :: _) _ _); refine wpListIn_load_mid rfl 101 _ rfl b (o + m * 129) rfl C[m].cells _ HRG.out Tryd.underlying101 rfl HIX.out ?_))
      refine hR.mono ?_
      rintro e W3 (⟨rfl, hJ3, hk3⟩ | ⟨rfl, hJx3⟩)
      · have HJ3 := Lib.hid hJ3
        have HK3 := Lib.hid hk3
        clear hJ3 hk3
        gi_wp2
        go_roundw
        case rel => exact BRel.next HK.out (by rw [HFB.out]; exact HJ3.out) (HNX.out.trans HK3.out)
        case measure => simp [intOf] <;> omega
      · gi_wp2
        refine bodyPost_ret (results_none rfl _ _ _) rfl ?_
        have := HK.out
        exact ⟨⟨_, rfl⟩, .inr ⟨_, ⟨k + 1, by omega, by rw [upto_succ, HFB.out]⟩, hJx3⟩⟩
    · gi_wp2
      go_end0
      exact ⟨⟨_, rfl⟩, .inl ⟨_, rfl, hJs⟩⟩
set_option maxHeartbeats 1000000 in
theorem back_in (n : Nat) (a : Option Addr) (len cap : Nat) (w : World) :
    Calls Tryd.prog 54 #[.slice a len cap] w fun e w' => e = .returned (.func (.func 66) #[] #[.pointer (some ⟨w.heap.size, 0, none⟩)]) ∧ w' = w.alloc (.cells #[.slice a len cap] 27) := by
  have hmf : ∀ (fn : Fn) (first cap : Array Value) (W : World), (Instr.makeFunc fn first cap).run Tryd.prog W = .ok (.func fn first cap) W := fun _ _ _ _ => rfl
  go_enter Tryd.func54, Tryd.ntmps54
  go_wp2
  go_ret
  exact ⟨rfl, rfl⟩
theorem back_stops (n : Nat) (hn : 1 ≤ n) (Bs n₀ : Nat) (ca : Option Addr) (cc : Nat) (C : List Wri) (hok : ∀ x ∈ C, x.ok) (hcn : C.length ≤ cc) (hcm : cc ≤ 9223372036854775807) (w : World) (hBs : Bs < n₀) (hn₀ : n₀ ≤ w.heap.size)
    (hc : w.cell? ⟨Bs, 0, none⟩ = some (.slice ca C.length cc)) (hrc : RdC w ca C) (hcb : ∀ a, ca = some a → C ≠ [] → a.block < n₀) :
    SeqStopsK Fence.wide n Tryd.prog 66 #[.pointer (some ⟨Bs, 0, none⟩)] encB (Below n₀) (fun ys => ys = upto (fB C hok) C.length) (fun pre => ∃ k, k ≤ C.length ∧ pre = upto (fB C hok) k) C.length w := fun l J Jx W hW _ _ hY h0 => by
  have hW' := hW.mono hn₀
  have hc' := (hW'.cell (p := ⟨Bs, 0, none⟩) hBs).trans hc
  refine back1_in n hn l Bs n₀ ca cc C hok hcn hcm J Jx hY W hc' hBs (RdG.keep hrc ⟨hW.os, hW.tape, hW.output, hW.size, fun i hi _ => hW.block i hi⟩) hcb h0

end Go.Proofs.YtmkmpfnadcmcoaaDoor.DiskBack
namespace Go.Proofs.YtmkmpfnadcmcoaaDoor.DiskTwins
open Go Go.RowKit Go.Proofs.YtmkmpfnadcmcoaaDoor.K Go.Proofs.YtmkmpfnadcmcoaaDoor.EqKit Go.Proofs.YtmkmpfnadcmcoaaDoor.ArrKit Go.Proofs.YtmkmpfnadcmcoaaDoor.HeldKit Go.Proofs.YtmkmpfnadcmcoaaDoor.GKit Go.Proofs.YtmkmpfnadcmcoaaDoor.GRow Go.Proofs.YtmkmpfnadcmcoaaDoor.DiskKit Go.Proofs.YtmkmpfnadcmcoaaDoor.DiskAsk Go.Proofs.YtmkmpfnadcmcoaaDoor.DiskForm Go.Proofs.YtmkmpfnadcmcoaaDoor.DiskAct Go.Proofs.YtmkmpfnadcmcoaaDoor.DiskNew Go.Proofs.YtmkmpfnadcmcoaaDoor.DiskCopy
set_option maxHeartbeats 2000000 in
set_option maxRecDepth 100000 in
theorem clip_calls (ca : Option Addr) (n cc : Nat) (w : World) (hn : n ≤ cc) (hm : cc ≤ 9223372036854775807) : Calls Tryd.prog 56 #[.slice ca n cc] w fun e w' => e = .returned (.slice ca n n) ∧ w = w' := by
  cases ca with
  | none =>
    go_enter Tryd.func56, Tryd.ntmps56
    go_wp2
    go_ret
    exact ⟨rfl, rfl⟩
  | some x =>
    go_enter Tryd.func56, Tryd.ntmps56
    go_wp2
    go_ret
    exact ⟨rfl, rfl⟩
theorem DZ_no : ∀ (j : Nat) (x : Value), DZ[j]? = some x → ∀ v : UInt8, x ≠ B v := dc_no _ _ _ _ (by simp [B]) (by simp [B])

end Go.Proofs.YtmkmpfnadcmcoaaDoor.DiskTwins
