/- The theorems that the claim uses, text behind text (part 14). -/
import Derived.Test.YtmkmpfnadcmcoaaGreatDoorYaa
import Derived.Test.YtmkmpfnadcmcoaaGreatDoorYac
import Derived.Test.YtmkmpfnadcmcoaaGreatDoorYam
import Derived.RangeFuncNested
import Derived.RangeFuncBound
import Derived.RangeFuncCalls
import Derived.RangeFuncLeaves
import Derived.Shelf.Abstract
import Derived.Shelf.RegionOpen
import Derived.OwnWalkIn
import Derived.TacticsInMore
import Derived.LoopNIn
import Derived.LoopIn
set_option maxRecDepth 100000
set_option maxHeartbeats 8000000
set_option linter.unusedVariables false
set_option linter.unusedSimpArgs false
namespace Go.Proofs.YtmkmpfnadcmcoaaGreatDoor.RmAsk
open Go Go.RowKit K EqKit ArrKit HeldKit GKit GRow DiskKit RmKit MapKit RmRight RmRRight RmTab
def idxI (f : Int × Int → Bool) (l : List (Int × Int)) : Int := if l.findIdx f < l.length then (l.findIdx f : Int) else -1
theorem idxI_at {f : Int × Int → Bool} {l : List (Int × Int)} {k : Nat} (hk : k < l.length) (h : f l[k] = true) (hn : ∀ q (hq : q < k), f (l[q]'(by omega)) = false) : idxI f l = k := by
 have e : l.findIdx f = k := by
  rw [List.findIdx_eq hk]
  exact ⟨h, fun q hq => by simpa using hn q hq⟩
 unfold idxI
 rw [e, if_pos hk]
theorem idxI_no {f : Int × Int → Bool} {l : List (Int × Int)} (hn : ∀ q (hq : q < l.length), f l[q] = false) : idxI f l = -1 := by
 have e : l.findIdx f = l.length := by
  rw [List.findIdx_eq_length]
  intro x hx
  obtain ⟨q, hq, rfl⟩ := List.mem_iff_getElem.1 hx
  exact hn q hq
 unfold idxI
 rw [e, if_neg (Nat.lt_irrefl _)]
theorem idxI_cases (f : Int × Int → Bool) (l : List (Int × Int)) : (idxI f l = -1 ∧ ∀ x ∈ l, f x = false) ∨ ∃ k : Nat, ∃ hk : k < l.length, idxI f l = k ∧ f l[k] = true ∧ ∀ q (hq : q < k), f (l[q]'(by omega)) = false := by
 by_cases h : l.findIdx f < l.length
 ·refine .inr ⟨l.findIdx f, h, by unfold idxI;rw [if_pos h], List.findIdx_getElem, fun q hq => ?_⟩
  have := List.not_of_lt_findIdx hq
  simpa using this
 ·refine .inl ⟨by unfold idxI;rw [if_neg h], fun x hx => ?_⟩
  have e : l.findIdx f = l.length := Nat.le_antisymm List.findIdx_le_length (by omega)
  have := (List.findIdx_eq_length.1 e) x hx
  simpa using this

theorem pclo_calls (p : Int × Int) (bx : Nat) (n : Int) (w : World) (hb : Bk w bx #[.int .i64 n] 3) : Calls Tryz.prog 88 #[.agg (PR p).toArray, .pointer (some ⟨bx, 0, none⟩)] w fun e w' => e = .returned (.bool (p.1 == n)) ∧ Fr0 w w' := by
 have hb2 : Bk (w.alloc (.cells (PR p).toArray 70)) bx #[.int .i64 n] 3 := Bk.alloc hb _
 have c0 : (w.alloc (.cells (PR p).toArray 70)).cell? ⟨w.heap.size, 0, none⟩ = some (.int .i64 p.1) := (Bk.cell (Bk.new w _) 0).trans (PR_0 p.1 p.2)
 have c1 : (w.alloc (.cells (PR p).toArray 70)).cell? ⟨bx, 0, none⟩ = some (.int .i64 n) := Bk.cell hb2 0
 have hP : (PR p).toArray[0]? = some (.int .i64 p.1) := PR_0 p.1 p.2
 generalize (PR p).toArray = Y at *
 generalize p.1 = q at *
 clear hb hb2
 go_enter Tryz.func88, Tryz.ntmps88
 go_wp2
 go_ret
 exact ⟨rfl, Fr.alloc (Fr.refl _ _) _⟩

theorem sclo_calls (p : Int × Int) (bx : Nat) (n : Int) (w : World) (hb : Bk w bx #[.int .i64 n] 3) : Calls Tryz.prog 86 #[.agg (PR p).toArray, .pointer (some ⟨bx, 0, none⟩)] w fun e w' => e = .returned (.bool (p.2 == n)) ∧ Fr0 w w' := by
 have hb2 : Bk (w.alloc (.cells (PR p).toArray 70)) bx #[.int .i64 n] 3 := Bk.alloc hb _
 have c0 : (w.alloc (.cells (PR p).toArray 70)).cell? ⟨w.heap.size, 1, none⟩ = some (.int .i64 p.2) := (Bk.cell (Bk.new w _) 1).trans (PR_1 p.1 p.2)
 have c1 : (w.alloc (.cells (PR p).toArray 70)).cell? ⟨bx, 0, none⟩ = some (.int .i64 n) := Bk.cell hb2 0
 have hP : (PR p).toArray[1]? = some (.int .i64 p.2) := PR_1 p.1 p.2
 generalize (PR p).toArray = Y at *
 generalize p.2 = q at *
 clear hb hb2
 go_enter Tryz.func86, Tryz.ntmps86
 go_wp2
 go_ret
 exact ⟨rfl, Fr.alloc (Fr.refl _ _) _⟩

theorem pidx_calls (l : List (Int × Int)) (a : Option Addr) (c bx : Nat) (n : Int) (w : World) (hr : RdP w a l) (hlen : l.length ≤ 8796093022208) (hb : Bk w bx #[.int .i64 n] 3) : Calls Tryz.prog 87 #[.slice a l.length c, .func (Fn.func 88) #[] #[.pointer (some ⟨bx, 0, none⟩)]] w fun e w' => e = .returned (.int .i64 (idxI (fun p => p.1 == n) l)) ∧ Fr0 w w' := by
 have HRD := jq7 hr
 have HB := jq7 hb
 clear hr hb
 go_enter Tryz.func87, Tryz.ntmps87
 go_wp2
 go_loopw [8] (fun jj W => ∃ j : Nat, j ≤ l.length ∧ jj = .int .i64 j ∧ (∀ q (hq : q < j) (hq2 : q < l.length), (l[q].1 == n) = false) ∧ Fr0 w W) (fun jj _ => l.length - (intOf jj).toNat)
 case atStart => exact ⟨0, Nat.zero_le _, rfl, fun q hq => by omega, Fr.refl _ _⟩
 case round =>
  obtain ⟨j, hj, rfl, hno, hF⟩ := hrel
  have HNO := jq7 hno
  have HF := jq7 hF
  clear hno hF
  by_cases hjl : j < l.length
  ·obtain ⟨b2, o2, rfl, hat⟩ := RdP.form HRD.o hjl
   have HRG := jq7 (hat _ (HRD.o.keep HF.o)).1
   have HCL := jq7 (pclo_calls l[j] bx n wr (HF.o.keep HB.o (fun h => h)))
   have HQ : Jq7 (∀ v, (l[j].1 == n) = v → (l[j].1 == n) = v) := jq7 (fun v h => h)
   clear hat
   cases hv : (l[j].1 == n) with
   | true =>
    have HI := jq7 (idxI_at (f := fun p => p.1 == n) hjl hv (fun q hq => HNO.o q hq (by omega)))
    rw [hv] at HCL
    clear hv HQ
    generalize l[j] = p at *
    go_wp2_with (first | ((with_reducible show wkq (.load 70 _) _);refine wpList_load_mid rfl 70 _ rfl b2 (o2 + j * 2) rfl (PR p) _ HRG.o Tryz.underlying70 rfl (info_pr _) ?_) | (go_at_call 88;(with_reducible refine (HCL.o).mono ?_);rintro e w7 ⟨rfl, hf7⟩;have HF7 := fq0 HF hf7;clear hf7))
    go_ret
    exact ⟨by rw [HI.o];rfl, HF7.o⟩
   | false =>
    have HV := jq7 hv
    rw [hv] at HCL
    clear hv HQ
    generalize hp : l[j] = p at *
    have HP := jq7 hp
    clear hp
    go_wp2_with (first | ((with_reducible show wkq (.load 70 _) _);refine wpList_load_mid rfl 70 _ rfl b2 (o2 + j * 2) rfl (PR p) _ HRG.o Tryz.underlying70 rfl (info_pr _) ?_) | (go_at_call 88;(with_reducible refine (HCL.o).mono ?_);rintro e w7 ⟨rfl, hf7⟩;have HF7 := fq0 HF hf7;clear hf7))
    go_roundw
    case rel => exact ⟨j + 1, by omega, by go_num, fun q hq hq2 => by
      rcases Nat.lt_or_ge q j with h | h
      ·exact HNO.o q h hq2
      ·obtain rfl : q = j := by omega
       rw [HP.o];exact HV.o, HF7.o⟩
    case measure => simp [intOf];omega
  ·have HI := jq7 (idxI_no (f := fun p => p.1 == n) (l := l) (fun q hq => HNO.o q (by omega) hq))
   go_wp2
   go_ret
   exact ⟨by rw [HI.o];rfl, HF.o⟩

theorem sidx_calls (l : List (Int × Int)) (a : Option Addr) (c bx : Nat) (n : Int) (w : World) (hr : RdP w a l) (hlen : l.length ≤ 8796093022208) (hb : Bk w bx #[.int .i64 n] 3) : Calls Tryz.prog 87 #[.slice a l.length c, .func (Fn.func 86) #[] #[.pointer (some ⟨bx, 0, none⟩)]] w fun e w' => e = .returned (.int .i64 (idxI (fun p => p.2 == n) l)) ∧ Fr0 w w' := by
 have HRD := jq7 hr
 have HB := jq7 hb
 clear hr hb
 go_enter Tryz.func87, Tryz.ntmps87
 go_wp2
 go_loopw [8] (fun jj W => ∃ j : Nat, j ≤ l.length ∧ jj = .int .i64 j ∧ (∀ q (hq : q < j) (hq2 : q < l.length), (l[q].2 == n) = false) ∧ Fr0 w W) (fun jj _ => l.length - (intOf jj).toNat)
 case atStart => exact ⟨0, Nat.zero_le _, rfl, fun q hq => by omega, Fr.refl _ _⟩
 case round =>
  obtain ⟨j, hj, rfl, hno, hF⟩ := hrel
  have HNO := jq7 hno
  have HF := jq7 hF
  clear hno hF
  by_cases hjl : j < l.length
  ·obtain ⟨b2, o2, rfl, hat⟩ := RdP.form HRD.o hjl
   have HRG := jq7 (hat _ (HRD.o.keep HF.o)).1
   have HCL := jq7 (sclo_calls l[j] bx n wr (HF.o.keep HB.o (fun h => h)))
   have HQ : Jq7 (∀ v, (l[j].2 == n) = v → (l[j].2 == n) = v) := jq7 (fun v h => h)
   clear hat
   cases hv : (l[j].2 == n) with
   | true =>
    have HI := jq7 (idxI_at (f := fun p => p.2 == n) hjl hv (fun q hq => HNO.o q hq (by omega)))
    rw [hv] at HCL
    clear hv HQ
    generalize l[j] = p at *
    go_wp2_with (first | ((with_reducible show wkq (.load 70 _) _);refine wpList_load_mid rfl 70 _ rfl b2 (o2 + j * 2) rfl (PR p) _ HRG.o Tryz.underlying70 rfl (info_pr _) ?_) | (go_at_call 86;(with_reducible refine (HCL.o).mono ?_);rintro e w7 ⟨rfl, hf7⟩;have HF7 := fq0 HF hf7;clear hf7))
    go_ret
    exact ⟨by rw [HI.o];rfl, HF7.o⟩
   | false =>
    have HV := jq7 hv
    rw [hv] at HCL
    clear hv HQ
    generalize hp : l[j] = p at *
    have HP := jq7 hp
    clear hp
    go_wp2_with (first | ((with_reducible show wkq (.load 70 _) _);refine wpList_load_mid rfl 70 _ rfl b2 (o2 + j * 2) rfl (PR p) _ HRG.o Tryz.underlying70 rfl (info_pr _) ?_) | (go_at_call 86;(with_reducible refine (HCL.o).mono ?_);rintro e w7 ⟨rfl, hf7⟩;have HF7 := fq0 HF hf7;clear hf7))
    go_roundw
    case rel => exact ⟨j + 1, by omega, by go_num, fun q hq hq2 => by
      rcases Nat.lt_or_ge q j with h | h
      ·exact HNO.o q h hq2
      ·obtain rfl : q = j := by omega
       rw [HP.o];exact HV.o, HF7.o⟩
    case measure => simp [intOf];omega
  ·have HI := jq7 (idxI_no (f := fun p => p.2 == n) (l := l) (fun q hq => HNO.o q (by omega) hq))
   go_wp2
   go_ret
   exact ⟨by rw [HI.o];rfl, HF.o⟩

theorem idxI_ge (f : Int × Int → Bool) (l : List (Int × Int)) : decide (0 ≤ idxI f l) = l.any f := by
 rcases idxI_cases f l with ⟨h1, h2⟩ | ⟨k, hk, h1, h2, h3⟩
 ·rw [h1, decide_eq_false (by omega)]
  symm
  rw [List.any_eq_false]
  exact fun x hx => by simp [h2 x hx]
 ·rw [h1, decide_eq_true (by omega)]
  symm
  rw [List.any_eq_true]
  exact ⟨_, List.getElem_mem hk, h2⟩
theorem scont_calls (l : List (Int × Int)) (a : Option Addr) (c bx : Nat) (n : Int) (w : World) (hr : RdP w a l) (hlen : l.length ≤ 8796093022208) (hb : Bk w bx #[.int .i64 n] 3) : Calls Tryz.prog 85 #[.slice a l.length c, .func (Fn.func 86) #[] #[.pointer (some ⟨bx, 0, none⟩)]] w fun e w' => e = .returned (.bool (l.any (fun p => p.2 == n))) ∧ Fr0 w w' := by
 have HI := jq7 (sidx_calls l a c bx n w hr hlen hb)
 have HG := jq7 (idxI_ge (fun p => p.2 == n) l)
 clear hr hlen hb
 generalize idxI (fun p => p.2 == n) l = r at *
 go_enter Tryz.func85, Tryz.ntmps85
 go_wp2_with (go_at_call 87;(with_reducible refine HI.o.mono ?_);rintro e w1 ⟨rfl, hf⟩;have HF1 := jq7 hf;clear hf)
 go_ret
 exact ⟨by rw [← HG.o];rfl, HF1.o⟩
def plc (m : Rm) (n : Int) : Int := idxI (fun p => p.1 == n) m.ps
theorem place_calls (m : Rm) (a : Option Addr) (c : Nat) (n : Int) (w : World) (hv : RV w m a c) (hlen : m.ps.length ≤ 8796093022208) : Calls Tryz.prog 62 #[.agg (rval m a c), .int .i64 n] w fun e w' => e = .returned (.int .i64 (plc m n)) ∧ Fr0 w w' := by
 have hs1 : (w.alloc (.cells (rval m a c) 28)).heap.size = w.heap.size + 1 := by simp
 have hx : Bk ((w.alloc (.cells (rval m a c) 28)).alloc (.cells #[.int .i64 n] 3)) w.heap.size (rval m a c) 28 := Bk.alloc (Bk.new w _) _
 have c1 : ((w.alloc (.cells (rval m a c) 28)).alloc (.cells #[.int .i64 n] 3)).cell? ⟨w.heap.size, 1, none⟩ = some (.slice a m.ps.length c) := Bk.cell hx 1
 have hp1 : (rval m a c)[1]? = some (.slice a m.ps.length c) := rfl
 have HB : Jq7 (Bk ((w.alloc (.cells (rval m a c) 28)).alloc (.cells #[.int .i64 n] 3)) (w.heap.size + 1) #[.int .i64 n] 3) := jq7 (by have := Bk.new (w.alloc (.cells (rval m a c) 28)) (.cells #[.int .i64 n] 3);rwa [hs1] at this)
 have HF : Jq7 (Fr0 w ((w.alloc (.cells (rval m a c) 28)).alloc (.cells #[.int .i64 n] 3))) := jq7 (Fr.alloc (Fr.alloc (Fr.refl _ _) _) _)
 have HI := jq7 (pidx_calls m.ps a c (w.heap.size + 1) n _ (hv.rd.keep HF.o) hlen HB.o)
 have HPL : Jq7 (plc m n = idxI (fun p => p.1 == n) m.ps) := jq7 rfl
 clear hx hs1 hv
 generalize rval m a c = X at *
 generalize idxI (fun p => p.1 == n) m.ps = r at *
 rw [HPL.o]
 go_enter Tryz.func62, Tryz.ntmps62
 go_wp2_with (go_at_call 87;(with_reducible refine HI.o.mono ?_);rintro e w1 ⟨rfl, hf⟩;have HF1 := fq0 HF hf;clear hf)
 go_ret
 exact ⟨rfl, HF1.o⟩
def atI (m : Rm) (n : Int) : Int := match m.ps.find? (fun p => p.1 == n) with | some p => p.2 | none => n
theorem atI_no {m : Rm} {n : Int} (h : ∀ x ∈ m.ps, (x.1 == n) = false) : atI m n = n := by
 unfold atI
 rw [List.find?_eq_none.2 (fun x hx => by simp [h x hx])]
theorem atI_at {m : Rm} {n : Int} {k : Nat} (hk : k < m.ps.length) (h : (m.ps[k].1 == n) = true) (hn : ∀ q (hq : q < k), ((m.ps[q]'(by omega)).1 == n) = false) : atI m n = m.ps[k].2 := by
 unfold atI
 have e : m.ps.find? (fun p => p.1 == n) = some m.ps[k] := by
  rw [List.find?_eq_some_iff_getElem]
  exact ⟨h, k, hk, rfl, fun q hq => by simpa using hn q hq⟩
 rw [e]
theorem at_calls (m : Rm) (a : Option Addr) (c : Nat) (n : Int) (w : World) (hv : RV w m a c) (hlen : m.ps.length ≤ 8796093022208) : Calls Tryz.prog 59 #[.agg (rval m a c), .int .i64 n] w fun e w' => e = .returned (.int .i64 (atI m n)) ∧ Fr0 w w' := by
 have hx : Bk (w.alloc (.cells (rval m a c) 28)) w.heap.size (rval m a c) 28 := Bk.new w _
 have HX := jq7 hx
 have HF : Jq7 (Fr0 w (w.alloc (.cells (rval m a c) 28))) := jq7 (Fr.alloc (Fr.refl _ _) _)
 have HI := jq7 (place_calls m a c n _ (hv.keep HF.o) hlen)
 have HIN : Jq7 ((Tryz.prog.info? 28).map (·.size) = some (rval m a c).size) := jq7 (info_r _ _)
 have HP1 : Jq7 ((rval m a c)[1]? = some (.slice a m.ps.length c)) := jq7 rfl
 have HV := jq7 hv
 clear hx hv
 rcases idxI_cases (fun p => p.1 == n) m.ps with ⟨h1, h2⟩ | ⟨k, hk, h1, h2, h3⟩
 ·rw [show plc m n = -1 from h1] at HI
  rw [atI_no h2]
  clear h1 h2
  generalize rval m a c = X at *
  go_enter Tryz.func59, Tryz.ntmps59
  go_wp2_with (first | ((with_reducible show wkq (.load 28 _) _);refine lr 28 w.heap.size X HX.o HIN.o ?_) | (go_at_call 62;(with_reducible refine HI.o.mono ?_);rintro e w1 ⟨rfl, hf⟩;have HF1 := fq0 HF hf;clear hf))
  go_ret
  exact ⟨rfl, HF1.o⟩
 ·rw [show plc m n = k from h1] at HI
  rw [atI_at hk h2 h3]
  obtain ⟨b2, o2, rfl, hat⟩ := RdP.form HV.o.rd hk
  have HAT := jq7 hat
  clear h1 h2 h3 hat
  generalize rval m (some ⟨b2, o2, none⟩) c = X at *
  go_enter Tryz.func59, Tryz.ntmps59
  go_wp2_with (first | ((with_reducible show wkq (.load 28 _) _);refine lr 28 w.heap.size X HX.o HIN.o ?_) | (go_at_call 62;(with_reducible refine HI.o.mono ?_);rintro e w1 ⟨rfl, hf⟩;have HF1 := fq0 HF hf;have cx : w1.cell? ⟨w.heap.size, 1, none⟩ = some (.slice (some ⟨b2, o2, none⟩) m.ps.length c) := (Bk.cell (hf.keep HX.o (fun h => h)) 1).trans HP1.o;have cq : w1.cell? ⟨b2, o2 + k * 2 + 1, none⟩ = some (.int .i64 m.ps[k].2) := (HAT.o _ (HV.o.rd.keep HF1.o)).2.2;clear hf))
  go_ret
  exact ⟨rfl, HF1.o⟩
theorem rat_calls (m : Rm) (a : Option Addr) (c : Nat) (n : Int) (w : World) (hv : RV w m a c) (hlen : m.ps.length ≤ 8796093022208) : Calls Tryz.prog 74 #[.agg (rval m a c), .int .i64 n] w fun e w' => e = .returned (.int .i64 (atI m n)) ∧ Fr0 w w' := by
 have HX : Jq7 (Bk (w.alloc (.cells (rval m a c) 28)) w.heap.size (rval m a c) 28) := jq7 (Bk.new w _)
 have HF : Jq7 (Fr0 w (w.alloc (.cells (rval m a c) 28))) := jq7 (Fr.alloc (Fr.refl _ _) _)
 have c1 : (w.alloc (.cells (rval m a c) 28)).cell? ⟨w.heap.size, 1, none⟩ = some (.slice a m.ps.length c) := Bk.cell HX.o 1
 have hp1 : (rval m a c)[1]? = some (.slice a m.ps.length c) := rfl
 have HR := jq7 (hv.rd.keep HF.o)
 clear hv
 generalize rval m a c = X at *
 go_enter Tryz.func74, Tryz.ntmps74
 go_wp2
 clear HX
 generalize w.alloc (.cells X 28) = w5 at *
 go_loop [5] (fun jj => ∃ j : Nat, j ≤ m.ps.length ∧ jj = .int .i64 j ∧ (∀ q (hq : q < j) (hq2 : q < m.ps.length), (m.ps[q].1 == n) = false)) (fun jj => m.ps.length - (intOf jj).toNat)
 case atStart => exact ⟨0, Nat.zero_le _, rfl, fun q hq => by omega⟩
 case round =>
  obtain ⟨j, hj, rfl, hno⟩ := hrel
  have HNO := jq7 hno
  clear hno
  by_cases hjl : j < m.ps.length
  ·obtain ⟨b2, o2, rfl, hat⟩ := RdP.form HR.o hjl
   have ha := hat _ HR.o
   have f0 := ha.2.1
   have f1 := ha.2.2
   clear hat ha
   cases hv : (m.ps[j].1 == n) with
   | true =>
    have HI := jq7 (atI_at hjl hv (fun q hq => HNO.o q hq (by omega)))
    generalize m.ps[j].1 = p1 at *
    generalize m.ps[j].2 = p2 at *
    go_wp2
    go_ret
    exact ⟨by rw [HI.o];rfl, HF.o⟩
   | false =>
    generalize hp : m.ps[j].1 = p1 at *
    have HP := jq7 hp
    have HVV := jq7 hv
    clear hp
    go_wp2
    go_round
    case rel => exact ⟨j + 1, by omega, by go_num, fun q hq hq2 => by
      rcases Nat.lt_or_ge q j with h | h
      ·exact HNO.o q h hq2
      ·obtain rfl : q = j := by omega
       rw [HP.o];exact HVV.o⟩
    case measure => simp [intOf];omega
  ·have HI := jq7 (atI_no (m := m) (n := n) (fun x hx => by
    obtain ⟨q, hq, rfl⟩ := List.mem_iff_getElem.1 hx
    exact HNO.o q (by omega) hq))
   go_wp2
   go_ret
   exact ⟨by rw [HI.o];rfl, HF.o⟩

end Go.Proofs.YtmkmpfnadcmcoaaGreatDoor.RmAsk
namespace Go.Proofs.YtmkmpfnadcmcoaaGreatDoor.DiskSame
open Go Go.RowKit K EqKit ArrKit HeldKit GKit GRow DiskKit DiskAsk DiskForm DiskAct DiskNew
theorem run_neq_op {P : Program} {o : Oper} {a : Act} {x y : Operand} {t u : TypeId} {X Y : Array Value} {b : Bool} (ho : o.op = .binOp .neq t x y u) (hx : a.eval x = .agg X) (hy : a.eval y = .agg Y) (hm : P.eqGuardType P.depth t = false)
  (heq : ∀ W, (Op.equalIn 10000 t (.agg X) (.agg Y)).run P W = .ok b W) (w : World) : (execOp a.eval o).run P w = .ok (.value (.bool (!b))) w := by
 unfold execOp
 simp only [ho, hx, hy, Sem.run_bind, run_neq_struct, heq, Result.andThen, Sem.run_pure, run_eqGuard_agg _ _ _ _ _ _ _ hm]
theorem cells_b : Tryz.prog.cellsOf 36 = 128 := by kernel_rfl
theorem cells_u8 : Tryz.prog.cellsOf 5 = 1 := by kernel_rfl
theorem cells_bo : Tryz.prog.cellsOf 4 = 1 := by kernel_rfl
theorem cells_i64 : Tryz.prog.cellsOf 3 = 1 := by kernel_rfl
theorem lits_bool (d : Nat) (b : Bool) : Tryz.prog.keyLits (d + 1) 4 [.bool b] = some [Lit.bool b] := by
 unfold Program.keyLits
 rw [Tryz.underlying4]
theorem lits_i64 (d : Nat) {n : Int} (h : (Lit.int .i64 n).wf = true) : Tryz.prog.keyLits (d + 1) 3 [.int .i64 n] = some [Lit.int .i64 n] := by
 unfold Program.keyLits
 rw [Tryz.underlying3]
 simp [h]
theorem lits_block (d : Nat) (s : List UInt8) (hs : s.length = 128) : Tryz.prog.keyLits (d + 2) 36 (s.map B) = some (s.map fun v => Lit.int .u8 (v.toNat : Int)) := by
 have h := lits_row (k := .u8) d Tryz.underlying36 Tryz.underlying5 cells_u8 cells_b (s.map fun v => (v.toNat : Int)) (by simpa using hs) (fun z hz => by
  obtain ⟨v, -, rfl⟩ := List.mem_map.1 hz
  exact wf_u8 v)
 rw [List.map_map, List.map_map] at h
 exact h
theorem lits_sec {s : Sec} (h : s.ok) : Tryz.prog.keyLits 3 66 s.cells = some (s.data.map (fun v => Lit.int .u8 (v.toNat : Int)) ++ [Lit.bool s.nr, Lit.bool s.nw]) := by
 have hd : s.data.length = 128 := h
 unfold Program.keyLits
 rw [Tryz.underlying66]
 have e0 : (s.cells.drop 0).take 128 = s.data.map B := by rw [List.drop_zero, Sec.cells, List.take_append_of_le_length (by simp;omega), List.take_of_length_le (by simp;omega)]
 have e1 : (s.cells.drop 128).take 1 = [.bool s.nr] := by rw [Sec.cells, List.drop_append_of_le_length (by simp;omega), List.drop_eq_nil_of_le (by simp;omega)];rfl
 have e2 : (s.cells.drop 129).take 1 = [.bool s.nw] := by
  rw [Sec.cells, List.drop_append, List.drop_eq_nil_of_le (by simp;omega), List.length_map, hd];rfl
 rw [List.drop_zero] at e0
 simp [cells_s, cells_b, cells_bo, Sec.len h, e0, e1, e2, lits_block 0 s.data hd, lits_bool]
theorem lits_wri {x : Wri} (h : x.ok) : Tryz.prog.keyLits 3 68 x.cells = some (Lit.int .i64 x.pos :: x.data.map (fun v => Lit.int .u8 (v.toNat : Int))) := by
 have hd := h.len
 unfold Program.keyLits
 rw [Tryz.underlying68]
 have e0 : (x.cells.drop 1).take 128 = x.data.map B := by rw [Wri.cells, List.drop_one, List.tail_cons, List.take_of_length_le (by simp;omega)]
 have e1 : (x.cells.drop 0).take 1 = [.int .i64 x.pos] := by rw [List.drop_zero, Wri.cells];rfl
 rw [List.drop_zero] at e1
 rw [List.drop_one] at e0
 simp [cells_w, cells_b, cells_i64, Wri.leng h, e0, e1, lits_block 0 x.data hd, lits_i64 _ h.wf]
theorem guard_s : Tryz.prog.eqGuardType Tryz.prog.depth 66 = false := by kernel_rfl
theorem guard_w : Tryz.prog.eqGuardType Tryz.prog.depth 68 = false := by kernel_rfl
theorem eq_sec {s : Sec} (h : s.ok) (W : World) : (Op.equalIn 10000 66 (.agg s.cells.toArray) (.agg s.cells.toArray)).run Tryz.prog W = .ok true W := by
 obtain ⟨r, hr, hiff⟩ := run_equalIn_deep 9997 3 66 (by kernel_rfl) W 3 3 (.agg s.cells.toArray) (.agg s.cells.toArray) _ _ (by simp [Value.formed, Tryz.underlying66, cells_s, Sec.len h]) (by simp [Value.formed, Tryz.underlying66, cells_s, Sec.len h]) (lits_sec h) (lits_sec h)
 rw [show (10000 : Nat) = 9997 + 3 from rfl, hr]
 congr 1
 rw [hiff]
theorem eq_wri {x : Wri} (h : x.ok) (W : World) : (Op.equalIn 10000 68 (.agg x.cells.toArray) (.agg x.cells.toArray)).run Tryz.prog W = .ok true W := by
 obtain ⟨r, hr, hiff⟩ := run_equalIn_deep 9997 3 68 (by kernel_rfl) W 3 3 (.agg x.cells.toArray) (.agg x.cells.toArray) _ _ (by simp [Value.formed, Tryz.underlying68, cells_w, Wri.leng h]) (by simp [Value.formed, Tryz.underlying68, cells_w, Wri.leng h]) (lits_wri h) (lits_wri h)
 rw [show (10000 : Nat) = 9997 + 3 from rfl, hr]
 congr 1
 rw [hiff]
end Go.Proofs.YtmkmpfnadcmcoaaGreatDoor.DiskSame
namespace Go.Proofs.YtmkmpfnadcmcoaaGreatDoor.RmSame
open Go Go.RowKit K EqKit ArrKit HeldKit GKit GRow DiskKit RmKit MapKit RmRight RmRRight RmTab RmAsk DiskSame
theorem cells_pr : Tryz.prog.cellsOf 70 = 2 := by kernel_rfl
theorem guard_pr : Tryz.prog.eqGuardType Tryz.prog.depth 70 = false := by kernel_rfl
theorem lits_pair (p : Int × Int) (h : (Lit.int .i64 p.1).wf = true ∧ (Lit.int .i64 p.2).wf = true) : Tryz.prog.keyLits 3 70 (PR p) = some [Lit.int .i64 p.1, Lit.int .i64 p.2] := by
 unfold Program.keyLits
 rw [Tryz.underlying70]
 simp [PR, cells_pr, DiskSame.cells_i64, DiskSame.lits_i64 1 h.1, DiskSame.lits_i64 1 h.2]
theorem eq_pair (p q : Int × Int) (h : (Lit.int .i64 p.1).wf = true ∧ (Lit.int .i64 p.2).wf = true) (h' : (Lit.int .i64 q.1).wf = true ∧ (Lit.int .i64 q.2).wf = true) (W : World) : (Op.equalIn 10000 70 (.agg (PR p).toArray) (.agg (PR q).toArray)).run Tryz.prog W = .ok (decide (p = q)) W := by
 obtain ⟨r, hr, hiff⟩ := run_equalIn_deep 9997 3 70 (by kernel_rfl) W 3 3 (.agg (PR p).toArray) (.agg (PR q).toArray) _ _ (by simp [Value.formed, Tryz.underlying70, cells_pr, PR]) (by simp [Value.formed, Tryz.underlying70, cells_pr, PR]) (lits_pair p h) (lits_pair q h')
 rw [show (10000 : Nat) = 9997 + 3 from rfl, hr]
 congr 1
 rw [Bool.eq_iff_iff, hiff, decide_eq_true_eq]
 constructor
 ·intro e
  simp only [List.cons.injEq, Lit.int.injEq, true_and, and_true] at e
  exact Prod.ext e.1 e.2
 ·rintro rfl;rfl
theorem infoPr : (Tryz.prog.info? 70).map (fun i => (i.zero, i.size, i.bytes)) = some (some (.agg PZ2), 2, 16) := by kernel_rfl
def RZ : Array Value := RC 0 (.slice none 0 0)
theorem zero_r (W : World) : (zeroValue 28).run Tryz.prog W = .ok (.agg RZ) W := by kernel_rfl
theorem RC_all (g : Int) (a : Option Addr) (n c : Nat) : (RC g (.slice a n c)).all (·.oneCell') = true := by simp [RC, Value.oneCell']
abbrev OwnP (w : World) (g cap : Nat) (cur : Array Value) (l : List (Int × Int)) : Prop := OwnG PR 2 70 w g cap cur l
theorem rmcopy_calls (m : Rm) (a : Option Addr) (c : Nat) (w : World) (hv : RV w m a c) (hlen : m.ps.length ≤ 8796093022208) : Calls Tryz.prog 8 #[.agg (rval m a c)] w fun e w' => ∃ g cap cur, e = .returned (.agg (rval m (some ⟨g, 0, none⟩) cap)) ∧ w.heap.size ≤ g ∧ OwnP w' g cap cur m.ps ∧ Fr0 w w' := by
 have hz := zero_r
 obtain ⟨i1, hy0, hz0, hz1, hz2⟩ := info_parts infoPr
 have HJ : Jq7 (Tryz.prog.info? 70 = some i1 ∧ i1.zero = some (.agg PZ2) ∧ i1.size = 2 ∧ i1.bytes = 16) := jq7 ⟨hy0, hz0, hz1, hz2⟩
 clear hy0 hz0 hz1 hz2
 have hs1 : (w.alloc (.cells (rval m a c) 28)).heap.size = w.heap.size + 1 := by simp
 have hs2 : ((w.alloc (.cells (rval m a c) 28)).alloc (.cells RZ 28)).heap.size = w.heap.size + 1 + 1 := by simp
 have HX : Jq7 (Bk (((w.alloc (.cells (rval m a c) 28)).alloc (.cells RZ 28)).alloc (.cells #[] 70)) w.heap.size (rval m a c) 28) := jq7 (Bk.alloc (Bk.alloc (Bk.new w _) _) _)
 have HR : Jq7 (Bk (((w.alloc (.cells (rval m a c) 28)).alloc (.cells RZ 28)).alloc (.cells #[] 70)) (w.heap.size + 1) RZ 28) := jq7 (Bk.alloc (by have := Bk.new (w.alloc (.cells (rval m a c) 28)) (.cells RZ 28);rwa [hs1] at this) _)
 have HE : Jq7 (Bk (((w.alloc (.cells (rval m a c) 28)).alloc (.cells RZ 28)).alloc (.cells #[] 70)) (w.heap.size + 1 + 1) #[] 70) := jq7 (by have := Bk.new ((w.alloc (.cells (rval m a c) 28)).alloc (.cells RZ 28)) (.cells #[] 70);rwa [hs2] at this)
 have HF : Jq7 (Fr0 w (((w.alloc (.cells (rval m a c) 28)).alloc (.cells RZ 28)).alloc (.cells #[] 70))) := jq7 (Fr.alloc (Fr.alloc (Fr.alloc (Fr.refl _ _) _) _) _)
 have HRD := jq7 (hv.rd.keep HF.o)
 have hp1 : (rval m a c)[1]? = some (.slice a m.ps.length c) := rfl
 have HIN : Jq7 (∀ x y, (Tryz.prog.info? 28).map (·.size) = some (RC x y).size) := jq7 (fun _ _ => info_r _ _)
 have HP : Jq7 (Builtin.append_ #[26, 26] 26 #[.slice (some ⟨w.heap.size + 1 + 1, 0, none⟩) 0 0, .slice a m.ps.length c] = Builtin.append_ #[26, 26] 26 #[.slice (some ⟨w.heap.size + 1 + 1, 0, none⟩) 0 0, .slice a m.ps.length c]) := jq7 rfl
 clear hs1 hs2 hv HP
 have HG0 : Jq7 (rval m a c = RC m.gen (.slice a m.ps.length c)) := jq7 rfl
 generalize rval m a c = X at *
 go_enter Tryz.func8, Tryz.ntmps8
 go_wp2_with (first | ((with_reducible show wkq (.buildSlice 26 0 _) _);refine wpList_plain rfl fun K hK => ?_;refine GApp.wp_buildSlice_nil 26 rfl 70 i1 Tryz.underlying26 HJ.o.1 ?_;refine hK _ _ ?_) | (at_builtin;refine wpList_append_all rfl (.tmp 3) (.tmp 5) 26 (by rfl) i1 (.agg PZ2) 16 Tryz.underlying26 HJ.o.1 HJ.o.2.1 HJ.o.2.2.1 HJ.o.2.2.2 rfl (by decide) (w.heap.size + 1 + 1) HE.o (by rfl) a m.ps.length c (by rfl) m.ps rfl HRD.o (fun x _ => PR_len x) (fun x _ => PR_one x) (by omega) (by omega) ?_;intro g cap cur w1 hge hown hfr;have HO1 := jq7 hown;have HX1 := jq7 (hfr.keep HX.o (by omega));have HR1 := jq7 (hfr.keep HR.o (by omega));have HF1 : Jq7 (Fr0 w w1) := jq7 (Fr.newG HF.o hfr (by omega));have HGE := jq7 hge;have cx := Bk.cell HX1.o 1;rw [hp1] at cx;have fx := Bk.free HX1.o 1;have HX2 : Jq7 (Bk (w1.setCell ⟨w.heap.size, 1, none⟩ (.slice (some ⟨g, 0, none⟩) m.ps.length cap)) w.heap.size (RC m.gen (.slice (some ⟨g, 0, none⟩) m.ps.length cap)) 28) := jq7 (by have := Bk.set HX1.o 1 (.slice (some ⟨g, 0, none⟩) m.ps.length cap);rwa [HG0.o] at this);have HR2 : Jq7 (Bk (w1.setCell ⟨w.heap.size, 1, none⟩ (.slice (some ⟨g, 0, none⟩) m.ps.length cap)) (w.heap.size + 1) RZ 28) := jq7 (Bk.setOther HR1.o _ _ (by show w.heap.size + 1 ≠ w.heap.size;omega));clear hge hown hfr) | ((with_reducible show wkq (.load 28 _) _);refine lr 28 w.heap.size (RC m.gen (.slice (some ⟨g, 0, none⟩) m.ps.length cap)) HX2.o (HIN.o _ _) ?_) | ((with_reducible show wkq (.store 28 _ _) _);refine wpList_store_row rfl 28 _ _ rfl (w.heap.size + 1) (RC m.gen (.slice (some ⟨g, 0, none⟩) m.ps.length cap)) rfl rfl 28 RZ HR2.o (HIN.o _ _) rfl (RC_all _ _ _ _) ?_))
 refine fin_c (w.heap.size + 1) 28 (RC m.gen (.slice (some ⟨g, 0, none⟩) m.ps.length cap)) (by rfl) (by rfl) (by rfl) Tryz.underlying28 (by rfl) (HIN.o _ _) (ArrKit.Bk.row HR2.o _) ?_
 have hgg := HGE.o
 refine ⟨g, cap, cur, rfl, by omega, ?_, ?_⟩
 ·exact OwnG.keep (OwnG.keep HO1.o (Fr.set1 w1 w.heap.size 1 (.slice (some ⟨g, 0, none⟩) m.ps.length cap)) (by omega)) (Fr.row1 _ (w.heap.size + 1) _) (by omega)
 ·exact ArrKit.Fr.row (Fr.set HF1.o _ _ (.inl (Nat.le_refl _))) _ _ (.inl (by omega))

theorem rmsame_no (m n : Rm) (a b : Option Addr) (c d : Nat) (w : World) (h : m.gen ≠ n.gen ∨ m.ps.length ≠ n.ps.length) : Calls Tryz.prog 12 #[.agg (rval m a c), .agg (rval n b d)] w fun e w' => e = .returned (.bool false) ∧ Fr0 w w' := by
 have hs1 : (w.alloc (.cells (rval m a c) 28)).heap.size = w.heap.size + 1 := by simp
 have HX : Jq7 (Bk ((w.alloc (.cells (rval m a c) 28)).alloc (.cells (rval n b d) 28)) w.heap.size (rval m a c) 28) := jq7 (Bk.alloc (Bk.new w _) _)
 have HY : Jq7 (Bk ((w.alloc (.cells (rval m a c) 28)).alloc (.cells (rval n b d) 28)) (w.heap.size + 1) (rval n b d) 28) := jq7 (by have := Bk.new (w.alloc (.cells (rval m a c) 28)) (.cells (rval n b d) 28);rwa [hs1] at this)
 have HF : Jq7 (Fr0 w ((w.alloc (.cells (rval m a c) 28)).alloc (.cells (rval n b d) 28))) := jq7 (Fr.alloc (Fr.alloc (Fr.refl _ _) _) _)
 have px0 : (rval m a c)[0]? = some (.int .i64 m.gen) := rfl
 have px1 : (rval m a c)[1]? = some (.slice a m.ps.length c) := rfl
 have py0 : (rval n b d)[0]? = some (.int .i64 n.gen) := rfl
 have py1 : (rval n b d)[1]? = some (.slice b n.ps.length d) := rfl
 have HPX1 := jq7 px1
 have HPY1 := jq7 py1
 clear hs1
 generalize rval m a c = X at *
 generalize rval n b d = Y at *
 by_cases hg : m.gen = n.gen
 ·have hn : m.ps.length ≠ n.ps.length := h.resolve_left (fun e => e hg)
  have e1 : (m.gen != n.gen) = false := by simpa using hg
  have e2 : (m.ps.length != n.ps.length) = true := by simpa using hn
  have e3 : ((m.ps.length : Int) != (n.ps.length : Int)) = true := by simp;omega
  clear h hg hn
  generalize m.gen = g1 at *
  generalize n.gen = g2 at *
  go_enter Tryz.func12, Tryz.ntmps12
  go_wp2
  go_ret
  exact ⟨rfl, HF.o⟩
 ·have e1 : (m.gen != n.gen) = true := by simpa using hg
  clear h hg
  generalize m.gen = g1 at *
  generalize n.gen = g2 at *
  go_enter Tryz.func12, Tryz.ntmps12
  go_wp2
  go_ret
  exact ⟨rfl, HF.o⟩
theorem rmsame_loop (m n : Rm) (a b : Option Addr) (c d : Nat) (w : World) (hm : m.ok) (hn : n.ok) (hv : RV w m a c) (hv' : RV w n b d) (hg : m.gen = n.gen) (hl : m.ps.length = n.ps.length) (h63 : m.ps.length ≤ 8796093022208) : Calls Tryz.prog 12 #[.agg (rval m a c), .agg (rval n b d)] w fun e w' => e = .returned (.bool (decide (m.ps = n.ps))) ∧ Fr0 w w' := by
 have hs1 : (w.alloc (.cells (rval m a c) 28)).heap.size = w.heap.size + 1 := by simp
 have HX : Jq7 (Bk ((w.alloc (.cells (rval m a c) 28)).alloc (.cells (rval n b d) 28)) w.heap.size (rval m a c) 28) := jq7 (Bk.alloc (Bk.new w _) _)
 have HY : Jq7 (Bk ((w.alloc (.cells (rval m a c) 28)).alloc (.cells (rval n b d) 28)) (w.heap.size + 1) (rval n b d) 28) := jq7 (by have := Bk.new (w.alloc (.cells (rval m a c) 28)) (.cells (rval n b d) 28);rwa [hs1] at this)
 have HF : Jq7 (Fr0 w ((w.alloc (.cells (rval m a c) 28)).alloc (.cells (rval n b d) 28))) := jq7 (Fr.alloc (Fr.alloc (Fr.refl _ _) _) _)
 have px0 : (rval m a c)[0]? = some (.int .i64 m.gen) := rfl
 have px1 : (rval m a c)[1]? = some (.slice a m.ps.length c) := rfl
 have py0 : (rval n b d)[0]? = some (.int .i64 n.gen) := rfl
 have py1 : (rval n b d)[1]? = some (.slice b n.ps.length d) := rfl
 have HPX1 := jq7 px1
 have HPY1 := jq7 py1
 clear hs1
 have HPM := jq7 hm.p
 have HPN := jq7 hn.p
 have HV := jq7 hv.rd
 have HV' := jq7 hv'.rd
 have HL := jq7 hl
 have e1 : (m.gen != n.gen) = false := by simpa using hg
 have e2 : (m.ps.length != n.ps.length) = false := by simpa using hl
 have e3 : ((m.ps.length : Int) != (n.ps.length : Int)) = false := by simp;omega
 clear hm hn hv hv' hg hl
 generalize rval m a c = X at *
 generalize rval n b d = Y at *
 generalize m.gen = g1 at *
 generalize n.gen = g2 at *
 go_enter Tryz.func12, Tryz.ntmps12
 go_wp2
 clear e1 e2 e3 px0 px1 py0 py1
 generalize (w.alloc (.cells X 28)).alloc (.cells Y 28) = w5 at *
 go_loopw [5] (fun jj W => ∃ j : Nat, j ≤ m.ps.length ∧ jj = .int .i64 j ∧ (∀ q (h1 : q < j) (h2 : q < m.ps.length) (h3 : q < n.ps.length), m.ps[q] = n.ps[q]) ∧ Fr0 w5 W) (fun jj _ => m.ps.length - (intOf jj).toNat)
 case atStart => exact ⟨0, Nat.zero_le _, rfl, fun q h => by omega, Fr.refl _ _⟩
 case round =>
  obtain ⟨j, hj, rfl, hall, hF⟩ := hrel
  have HALL := jq7 hall
  have HF5 := jq7 hF
  have HX5 := kq0 hF HX
  have HY5 := kq0 hF HY
  have cx : wr.cell? ⟨w.heap.size, 1, none⟩ = some (.slice a m.ps.length c) := (Bk.cell HX5.o 1).trans HPX1.o
  clear hall hF
  by_cases hjl : j < m.ps.length
  ·have hjl2 : j < n.ps.length := by rw [← HL.o];exact hjl
   obtain ⟨b2, o2, rfl, hat⟩ := RdP.form HV.o hjl
   obtain ⟨b3, o3, rfl, hat'⟩ := RdP.form HV'.o hjl2
   have HA := jq7 (fun W f => (hat W (HV.o.keep f)).1)
   have HB := jq7 (fun W f => (hat' W (HV'.o.keep f)).1)
   have HEQ := jq7 (eq_pair m.ps[j] n.ps[j] (HPM.o _ (List.getElem_mem hjl)) (HPN.o _ (List.getElem_mem hjl2)))
   have HD : Jq7 (m.ps[j] = n.ps[j] ∨ m.ps[j] ≠ n.ps[j]) := jq7 (Classical.em _)
   have HNO : Jq7 (m.ps[j] ≠ n.ps[j] → decide (m.ps = n.ps) = false) := jq7 (fun h => decide_eq_false (fun e => h (by simp only [e])))
   have HIY := jq7 (info_pr m.ps[j])
   have HIZ := jq7 (info_pr n.ps[j])
   have HSS : Jq7 (Bk wr w.heap.size X 28 ∧ Bk wr (w.heap.size + 1) Y 28 ∧ Fr0 w wr) := jq7 ⟨HX5.o, HY5.o, HF.o.then0 HF5.o⟩
   clear hat hat'
   generalize hP : m.ps[j] = pp at *
   generalize hQ : n.ps[j] = qq at *
   have HPP := jq7 hP
   have HQQ := jq7 hQ
   clear hP hQ
   go_wp2
   by_cases hpq : pp = qq
   ·skip
    have HPQ := jq7 hpq
    have HEV : Jq7 (∀ W, (Op.equalIn 10000 70 (.agg (PR pp).toArray) (.agg (PR qq).toArray)).run Tryz.prog W = .ok true W) := jq7 (fun W => by rw [HEQ.o, decide_eq_true hpq])
    clear hpq
    refine wp_region_noPanic ?_
    refine wp_region_held_drew (S := (fun W : World => Bk W w.heap.size X 28 ∧ Bk W (w.heap.size + 1) Y 28 ∧ Fr0 w W)) (by kernel_rfl) (⟨HSS.o.1, HSS.o.2.1, Fr.drew HSS.o.2.2⟩) (fun hL0 => ?_)
    refine tk0 (i := 0) (v := .pointer (some ⟨w.heap.size, 1, none⟩)) rfl hL0 ?_
    refine tk (i := 1) (v := .slice (some ⟨b2, o2, none⟩) m.ps.length c) rfl (Or.inl ⟨by kernel_rfl, fun w hSw => by have hcl := (fun W h => (Bk.cell h.1 1).trans HPX1.o) w hSw;go_simp⟩) hL0 ?_
    simp only [Act.put,zA,zB,zC,zD,zE,zF]
    refine tk0 (i := 2) (v := .int .i64 (j : Int)) rfl hL0 ?_
    refine tk (i := 3) (v := .pointer (some ⟨b2, o2 + j * 2, none⟩)) rfl (Or.inl ⟨by kernel_rfl, fun w hSw => by go_simp⟩) hL0 ?_
    simp only [Act.put,zA,zB,zC,zD,zE,zF]
    refine tk (i := 4) (v := .agg (PR pp).toArray) rfl (yieldsIf_load_mid (by kernel_rfl) 70 _ rfl b2 (o2 + j * 2) rfl (PR pp) _ (fun W h => HA.o W h.2.2) Tryz.underlying70 rfl HIY.o) hL0 ?_
    refine tk0 (i := 5) (v := .pointer (some ⟨w.heap.size + 1, 1, none⟩)) rfl hL0 ?_
    simp only [Act.put,zA,zB,zC,zD,zE,zF]
    refine tk (i := 6) (v := .slice (some ⟨b3, o3, none⟩) n.ps.length d) rfl (Or.inl ⟨by kernel_rfl, fun w hSw => by have hcl := (fun W h => (Bk.cell h.2.1 1).trans HPY1.o) w hSw;go_simp⟩) hL0 ?_
    refine tk0 (i := 7) (v := .int .i64 (j : Int)) rfl hL0 ?_
    simp only [Act.put,zA,zB,zC,zD,zE,zF]
    refine tk (i := 8) (v := .pointer (some ⟨b3, o3 + j * 2, none⟩)) rfl (Or.inl ⟨by kernel_rfl, fun w hSw => by go_simp⟩) hL0 ?_
    refine tk (i := 9) (v := .agg (PR qq).toArray) rfl (yieldsIf_load_mid (by kernel_rfl) 70 _ rfl b3 (o3 + j * 2) rfl (PR qq) _ (fun W h => HB.o W h.2.2) Tryz.underlying70 rfl HIZ.o) hL0 ?_
    simp only [Act.put,zA,zB,zC,zD,zE,zF]
    refine tk (i := 10) (v := .bool false) rfl (Or.inl ⟨by kernel_rfl, fun w hSw => run_neq_op rfl rfl rfl guard_pr HEV.o w⟩) hL0 ?_
    simp only [Act.put,zA,zB,zC,zD,zE,zF]
    change wpAnyH _ _ _ _ _ 0 #[true, true, true, true, true, true, true, true, true, true, true] _ _
    refine wpAnyH_done (by kernel_rfl) ?_ _
    refine NoPanic.normal ?_
    have HEND := jq7 hL0
    clear hL0
    go_wp2
    go_roundw
    case rel => exact ⟨j + 1, by omega, by go_num, fun q h1 h2 h3 => by
      rcases Nat.lt_or_ge q j with h | h
      ·exact HALL.o q h h2 h3
      ·obtain rfl : q = j := by omega
       rw [HPP.o, HQQ.o, HPQ.o], Fr.drew HF5.o⟩
    case measure => simp [intOf];omega
   ·skip
    have HPQ := jq7 hpq
    have HEV : Jq7 (∀ W, (Op.equalIn 10000 70 (.agg (PR pp).toArray) (.agg (PR qq).toArray)).run Tryz.prog W = .ok false W) := jq7 (fun W => by rw [HEQ.o, decide_eq_false hpq])
    clear hpq
    refine wp_region_noPanic ?_
    refine wp_region_held_drew (S := (fun W : World => Bk W w.heap.size X 28 ∧ Bk W (w.heap.size + 1) Y 28 ∧ Fr0 w W)) (by kernel_rfl) (⟨HSS.o.1, HSS.o.2.1, Fr.drew HSS.o.2.2⟩) (fun hL0 => ?_)
    refine tk0 (i := 0) (v := .pointer (some ⟨w.heap.size, 1, none⟩)) rfl hL0 ?_
    refine tk (i := 1) (v := .slice (some ⟨b2, o2, none⟩) m.ps.length c) rfl (Or.inl ⟨by kernel_rfl, fun w hSw => by have hcl := (fun W h => (Bk.cell h.1 1).trans HPX1.o) w hSw;go_simp⟩) hL0 ?_
    simp only [Act.put,zA,zB,zC,zD,zE,zF]
    refine tk0 (i := 2) (v := .int .i64 (j : Int)) rfl hL0 ?_
    refine tk (i := 3) (v := .pointer (some ⟨b2, o2 + j * 2, none⟩)) rfl (Or.inl ⟨by kernel_rfl, fun w hSw => by go_simp⟩) hL0 ?_
    simp only [Act.put,zA,zB,zC,zD,zE,zF]
    refine tk (i := 4) (v := .agg (PR pp).toArray) rfl (yieldsIf_load_mid (by kernel_rfl) 70 _ rfl b2 (o2 + j * 2) rfl (PR pp) _ (fun W h => HA.o W h.2.2) Tryz.underlying70 rfl HIY.o) hL0 ?_
    refine tk0 (i := 5) (v := .pointer (some ⟨w.heap.size + 1, 1, none⟩)) rfl hL0 ?_
    simp only [Act.put,zA,zB,zC,zD,zE,zF]
    refine tk (i := 6) (v := .slice (some ⟨b3, o3, none⟩) n.ps.length d) rfl (Or.inl ⟨by kernel_rfl, fun w hSw => by have hcl := (fun W h => (Bk.cell h.2.1 1).trans HPY1.o) w hSw;go_simp⟩) hL0 ?_
    refine tk0 (i := 7) (v := .int .i64 (j : Int)) rfl hL0 ?_
    simp only [Act.put,zA,zB,zC,zD,zE,zF]
    refine tk (i := 8) (v := .pointer (some ⟨b3, o3 + j * 2, none⟩)) rfl (Or.inl ⟨by kernel_rfl, fun w hSw => by go_simp⟩) hL0 ?_
    refine tk (i := 9) (v := .agg (PR qq).toArray) rfl (yieldsIf_load_mid (by kernel_rfl) 70 _ rfl b3 (o3 + j * 2) rfl (PR qq) _ (fun W h => HB.o W h.2.2) Tryz.underlying70 rfl HIZ.o) hL0 ?_
    simp only [Act.put,zA,zB,zC,zD,zE,zF]
    refine tk (i := 10) (v := .bool true) rfl (Or.inl ⟨by kernel_rfl, fun w hSw => run_neq_op rfl rfl rfl guard_pr HEV.o w⟩) hL0 ?_
    simp only [Act.put,zA,zB,zC,zD,zE,zF]
    change wpAnyH _ _ _ _ _ 0 #[true, true, true, true, true, true, true, true, true, true, true] _ _
    refine wpAnyH_done (by kernel_rfl) ?_ _
    refine NoPanic.normal ?_
    have HEND := jq7 hL0
    clear hL0
    go_wp2
    go_ret
    exact ⟨by rw [HNO.o HPQ.o];rfl, HEND.o.2.2⟩
  ·have HYES : Jq7 (decide (m.ps = n.ps) = true) := jq7 (decide_eq_true (List.ext_getElem HL.o (fun q h1 h2 => HALL.o q (by omega) h1 h2)))
   go_wp2
   go_ret
   exact ⟨by rw [HYES.o];rfl, HF.o.then0 HF5.o⟩

theorem rmsame_calls (m n : Rm) (a b : Option Addr) (c d : Nat) (w : World) (hm : m.ok) (hn : n.ok) (hv : RV w m a c) (hv' : RV w n b d) (h63 : m.ps.length ≤ 8796093022208) : Calls Tryz.prog 12 #[.agg (rval m a c), .agg (rval n b d)] w fun e w' => e = .returned (.bool (decide (m.gen = n.gen ∧ m.ps = n.ps))) ∧ Fr0 w w' := by
 by_cases h : m.gen ≠ n.gen ∨ m.ps.length ≠ n.ps.length
 ·rw [decide_eq_false (by rintro ⟨e1, e2⟩;rcases h with h | h;exact h e1;exact h (by rw [e2]))]
  exact rmsame_no m n a b c d w h
 ·have hg : m.gen = n.gen := Classical.not_not.1 (fun e => h (.inl e))
  have hl : m.ps.length = n.ps.length := Classical.not_not.1 (fun e => h (.inr e))
  have e : decide (m.gen = n.gen ∧ m.ps = n.ps) = decide (m.ps = n.ps) := by simp [hg]
  rw [e]
  exact rmsame_loop m n a b c d w hm hn hv hv' hg hl h63

end Go.Proofs.YtmkmpfnadcmcoaaGreatDoor.RmSame
namespace Go.Proofs.YtmkmpfnadcmcoaaGreatDoor.RfKit
open Go Go.RowKit K ArrKit HeldKit GKit GRow
section
variable {F : Fence} {n : Nat} {P : Program} {ops : Array Oper} {rest : List Oper} {o : Oper} {a : Act} {w : World} {Q : Exit → Act → World → Prop}
theorem wpListIn_load_mid (hgd : o.guard = none) (ty : TypeId) (x : Operand) (ho : o.op = .load ty x)
  (b of : Nat) (hx : a.eval x = .pointer (some ⟨b, of, none⟩)) (cs : List Value) (d : TypeDesc) (hc : w.rangeAt b of cs)
  (hu : P.underlying ty = some d) (hd : d.isRow = true) (hi : (P.info? ty).map (·.size) = some cs.length)
  (h : wpListIn F n P ops Q rest (a.put o.dst (.agg cs.toArray)) w) : wpListIn F n P ops Q (o :: rest) a w := by
 refine wpListIn_plain hgd fun K hK => ?_
 unfold Oper.wpIn
 refine ⟨?_, ?_⟩
 ·simp [Oper.about, ho]
 ·rw [Oper.semAt_plain F _ _ (by rw [ho];intro c hc;cases hc)]
  unfold execOp
  simp only [ho, hx, Instr.loadAt, Instr.sureAddr, Sem.run_bind, Sem.run_pure, Result.andThen_ok, run_loadVar_mid w b of ty cs d hc hu hd hi]
  exact hK _ _ h
theorem wpListIn_store_row (hgd : o.guard = none) (ty : TypeId) (x y : Operand) (ho : o.op = .store ty x y)
  (g : Nat) (cells : Array Value) (hx : a.eval x = .pointer (some ⟨g, 0, none⟩)) (hy : a.eval y = .agg cells)
  (t : TypeId) (old : Array Value) (hg : w.heap[g]? = some (.cells old t (0, 0))) (hi : (P.info? ty).map (·.size) = some cells.size)
  (hold : old.size = cells.size) (h1 : cells.all (·.oneCell') = true)
  (h : wpListIn F n P ops Q rest (a.put o.dst undef) (w.setRow g cells)) : wpListIn F n P ops Q (o :: rest) a w := by
 refine wpListIn_plain hgd fun K hK => ?_
 unfold Oper.wpIn
 refine ⟨?_, ?_⟩
 ·simp [Oper.about, ho]
 ·rw [Oper.semAt_plain F _ _ (by rw [ho];intro c hc;cases hc)]
  unfold execOp
  simp only [ho, hx, hy, Instr.storeAt, Instr.sureAddr, Sem.run_bind, Sem.run_pure, Result.andThen_ok, run_storeVar_row w g t ty old cells hg hi hold h1]
  exact hK _ _ h
end
def upto {α : Type} (f : Nat → α) (k : Nat) : List α := (List.range k).map f
theorem upto_succ {α : Type} (f : Nat → α) (k : Nat) : upto f (k + 1) = upto f k ++ [f k] := by simp [upto, List.range_succ]
theorem upto_length {α : Type} (f : Nat → α) (k : Nat) : (upto f k).length = k := by simp [upto]
theorem below_own {n₀ : Nat} {W₁ W W' : World} {row : Option Nat} (h : Below n₀ W₁ W) (hg : W.grownBy W' row) (hn : n₀ ≤ W₁.heap.size) (hr : ∀ r, row = some r → n₀ ≤ r ∧ ∃ o : Obj, W.heap[r]? = some o ∧ o.isCells = false) : Below n₀ W₁ W' :=
 h.grown hg (Nat.le_trans hn h.size) (fun k e => (hr k e).1)
theorem grownBy_row (w : World) (g : Nat) (cs : Array Value) : w.grownBy (w.setRow g cs) (some g) := ⟨rfl, rfl, rfl, by rw [size_setRow];exact Nat.le_refl _, fun k _ hk => setRow_other w g k _ (fun e => hk (by rw [e]))⟩
theorem below_row {n₀ : Nat} {w w1 : World} (h : Below n₀ w w1) (g : Nat) (cs : Array Value) (hg : n₀ ≤ g) : Below n₀ w (w1.setRow g cs) :=
 ⟨h.os, h.tape, h.output, by rw [size_setRow];exact h.size, fun i hi => (setRow_other w1 g i cs (by omega)).trans (h.block i hi)⟩
theorem below_heap {n₀ : Nat} {w w1 : World} (h : Below n₀ w w1) {g : Nat} {o : Obj} (hg : w.heap[g]? = some o) (hn : g < n₀) : w1.heap[g]? = some o := (h.block g hn).trans hg
end Go.Proofs.YtmkmpfnadcmcoaaGreatDoor.RfKit
