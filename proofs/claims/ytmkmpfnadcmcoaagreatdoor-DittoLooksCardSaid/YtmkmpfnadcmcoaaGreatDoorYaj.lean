/- The theorems that the claim uses, text behind text (part 10). -/
import Derived.Test.YtmkmpfnadcmcoaaGreatDoorYaa
import Derived.Test.YtmkmpfnadcmcoaaGreatDoorYai
import Derived.Deep.RegionHeld3
import Derived.Test.YtmkmpfnadcmcoaaGreatDoorProg
import Derived.Outline
import Derived.Deep.AppendLies
import Derived.OwnWalk
import Derived.Laws.BytesArg
import Derived.Laws.AppendOwnNone
import Derived.Laws.BytesString
set_option maxRecDepth 100000
set_option maxHeartbeats 8000000
set_option linter.unusedVariables false
set_option linter.unusedSimpArgs false
namespace Go.Proofs.YtmkmpfnadcmcoaaGreatDoor.ShaRef
open Go Go.RowKit K ShaRot ArrKit ShaSpread ShaStep ShaPlain HeldKit
theorem build_eq {P : Program} {ops : Array Oper} {rest : List Oper} {o : Oper} {a : Act} {w : World} {Q : Exit → Act → World → Prop} (hg : o.guard = none) (t : TypeId) (parts : Array (Nat × Operand)) (ho : o.op = .build t parts) (cs : Array Value)
  (hf : P.built t (parts.map fun (i, x) => (i, a.eval x)).toList = some cs) (h : wpList P ops Q rest (a.put o.dst (.agg cs)) w) : wpList P ops Q (o :: rest) a w :=
 wpList_build hg t parts ho (by rw [hf];rfl) (by rw [hf];exact h)
theorem not32 (e : Nat) (he : e < 4294967296) : bits .xor .u32 4294967295 (e : Int) = ((4294967295 - e : Nat) : Int) := by
 have h := u32_xor_nat 4294967295 e (by decide) he
 have h2 : (4294967295 ^^^ e : Nat) = 4294967295 - e := Nat.eq_of_testBit_eq fun i => by
  rw [Nat.testBit_xor, not_bit he, show (4294967295 : Nat) = 2 ^ 32 - 1 by decide, Nat.testBit_two_pow_sub_one]
  by_cases hi : i < 32
  ·simp [hi]
  ·simp [hi, Nat.testBit_lt_two_pow (Nat.lt_of_lt_of_le he (Nat.pow_le_pow_right (n := 2) (by decide) (show 32 ≤ i by omega)))]
 rw [← h2]
 exact h
theorem rnd_cells (a b c d e f g h kt xt : Nat) (R T : Int) (hR : R = ((rnd ⟨a, b, c, d, e, f, g, h⟩ kt xt).a : Int)) (hT : T = ((rnd ⟨a, b, c, d, e, f, g, h⟩ kt xt).e : Int)) :
  (#[.int .u32 R, .int .u32 (a : Int), .int .u32 (b : Int), .int .u32 (c : Int), .int .u32 T, .int .u32 (e : Int), .int .u32 (f : Int), .int .u32 (g : Int)] : Array Value) = ((rnd ⟨a, b, c, d, e, f, g, h⟩ kt xt).list.map U).toArray := by
 subst hR hT
 rfl
def stepSum (s r : S8) : S8 := ⟨(s.a + r.a) % 4294967296, (s.b + r.b) % 4294967296, (s.c + r.c) % 4294967296, (s.d + r.d) % 4294967296, (s.e + r.e) % 4294967296, (s.f + r.f) % 4294967296, (s.g + r.g) % 4294967296, (s.h + r.h) % 4294967296⟩
theorem step_at (s r : S8) (i : Nat) (hi : i < 8) : at0 (stepSum s r).list i = (at0 s.list i + at0 r.list i) % 4294967296 := by
 obtain ⟨a, b, c, d, e, f, g, h⟩ := s
 obtain ⟨a', b', c', d', e', f', g', h'⟩ := r
 match i, hi with
 | 0, _ => simp only [at0, S8.list, stepSum, List.getD_eq_getElem?_getD];simp
 | 1, _ => simp only [at0, S8.list, stepSum, List.getD_eq_getElem?_getD];simp
 | 2, _ => simp only [at0, S8.list, stepSum, List.getD_eq_getElem?_getD];simp
 | 3, _ => simp only [at0, S8.list, stepSum, List.getD_eq_getElem?_getD];simp
 | 4, _ => simp only [at0, S8.list, stepSum, List.getD_eq_getElem?_getD];simp
 | 5, _ => simp only [at0, S8.list, stepSum, List.getD_eq_getElem?_getD];simp
 | 6, _ => simp only [at0, S8.list, stepSum, List.getD_eq_getElem?_getD];simp
 | 7, _ => simp only [at0, S8.list, stepSum, List.getD_eq_getElem?_getD];simp
theorem list_cell (r : S8) (i : Nat) (hi : i < 8) : (r.list.map U).toArray[i]? = some (.int .u32 (at0 r.list i : Nat)) := by
 match i, hi with
 | 0, _ => rfl
 | 1, _ => rfl
 | 2, _ => rfl
 | 3, _ => rfl
 | 4, _ => rfl
 | 5, _ => rfl
 | 6, _ => rfl
 | 7, _ => rfl
theorem infoKC : (Tryz.prog.info? 130).map (·.size) = some KC.size := by kernel_rfl
theorem KC_all : KC.all (·.oneCell') = true := by kernel_rfl
theorem roots_calls (w : World) : Calls Tryz.prog 104 #[] w fun e w' => e = .returned (.agg KC) ∧ Fr0 w w' := by
 have HN := jq7 (Bk.new w (.cells Z 130))
 go_enter Tryz.func104, Tryz.ntmps104
 go_wp2_with (first | (refine build_eq rfl 130 _ rfl KC (by kernel_rfl) ?_) | (refine wpList_store_row rfl 130 _ _ rfl w.heap.size KC rfl rfl 130 Z HN.o infoKC rfl KC_all ?_))
 refine fin_c w.heap.size 130 KC (by rfl) (by rfl) (by rfl) Tryz.underlying130 (by rfl) infoKC (ArrKit.Bk.row HN.o _) ?_
 exact ⟨rfl, ArrKit.Fr.row (Fr.alloc (Fr.refl _ _) _) _ _ (.inl (Nat.le_refl _))⟩
def HB8 : Array Value := (begins.list.map U).toArray
theorem first_calls (w : World) : Calls Tryz.prog 92 #[] w fun e w' => e = .returned (.agg HB8) ∧ Fr0 w w' := by
 have HN := jq7 (Bk.new w (.cells Z8 112))
 go_enter Tryz.func92, Tryz.ntmps92
 go_wp2_with (first | (refine build_eq rfl 112 _ rfl HB8 (by kernel_rfl) ?_) | (refine wpList_store_row rfl 112 _ _ rfl w.heap.size HB8 rfl rfl 112 Z8 HN.o (by kernel_rfl) rfl (by kernel_rfl) ?_))
 refine fin_c w.heap.size 112 HB8 (by rfl) (by rfl) (by rfl) Tryz.underlying112 (by rfl) (by kernel_rfl) (ArrKit.Bk.row HN.o _) ?_
 exact ⟨rfl, ArrKit.Fr.row (Fr.alloc (Fr.refl _ _) _) _ _ (.inl (Nat.le_refl _))⟩
theorem keep_set {w : World} {g i j m : Nat} {v x : Value} (h : w.cell? ⟨g, i, none⟩ = some v) (hne : i ≠ j) : ((w.drewN m).setCell ⟨g, j, none⟩ x).cell? ⟨g, i, none⟩ = some v := by
 rw [← h]
 exact World.cell?_setCell_other (w.drewN m) ⟨g, j, none⟩ ⟨g, i, none⟩ _ (by first | (simp;done) | (simp;omega))
def RW (w wr : World) (hs0 cs : Array Value) (b : List UInt8) (k : Nat) : Prop := Bk wr w.heap.size hs0 112 ∧ Bk wr (w.heap.size + 1) cs 115 ∧ Bk wr (w.heap.size + 1 + 1) Z8 112 ∧ Bk wr (w.heap.size + 1 + 1 + 1) (lay Z 0 ((sched b k).map U)) 130 ∧ Fr0 w wr
theorem RW.drew {w wr : World} {hs0 cs : Array Value} {b : List UInt8} {k : Nat} (h : RW w wr hs0 cs b k) : RW w wr.drew hs0 cs b k := ⟨h.1, h.2.1, h.2.2.1, h.2.2.2.1, h.2.2.2.2.drew⟩
theorem RW.drewN {w wr : World} {hs0 cs : Array Value} {b : List UInt8} {k : Nat} (h : RW w wr hs0 cs b k) (n : Nat) : RW w (wr.drewN n) hs0 cs b k := ⟨h.1, h.2.1, h.2.2.1, h.2.2.2.1, h.2.2.2.2.drewN n⟩
theorem RW.next {w wr : World} {hs0 cs : Array Value} {b : List UInt8} {k x : Nat} (h : RW w wr hs0 cs b k) (hx : sched b (k + 1) = sched b k ++ [x]) : RW w (wr.setCell ⟨w.heap.size + 1 + 1 + 1, k, none⟩ (.int .u32 (x : Int))) hs0 cs b (k + 1) := by
 refine ⟨Bk.setOther h.1 _ _ (by first | (simp;done) | (simp;omega)), Bk.setOther h.2.1 _ _ (by first | (simp;done) | (simp;omega)), Bk.setOther h.2.2.1 _ _ (by first | (simp;done) | (simp;omega)), ?_, h.2.2.2.2.set _ _ (.inl (by simp;omega))⟩
 rw [hx, List.map_append, List.map_singleton, lay_snoc, List.length_map, sched_length, Nat.zero_add]
 exact h.2.2.2.1.set _ _
theorem RW.next_eq {w wr : World} {hs0 cs : Array Value} {b : List UInt8} {k x : Nat} {n : Int} (h : RW w wr hs0 cs b k) (hx : sched b (k + 1) = sched b k ++ [x]) (e : n = (x : Int)) : RW w (wr.setCell ⟨w.heap.size + 1 + 1 + 1, k, none⟩ (.int .u32 n)) hs0 cs b (k + 1) := e ▸ h.next hx
theorem RW.cell {w wr : World} {hs0 cs : Array Value} {b : List UInt8} {k : Nat} (h : RW w wr hs0 cs b k) (hk : k ≤ 64) (j : Nat) (hj : j < k) : wr.cell? ⟨w.heap.size + 1 + 1 + 1, j, none⟩ = some (.int .u32 (at0 (sched b k) j : Nat)) := by
 rw [h.2.2.2.1.cell, lay_get, if_pos ⟨Nat.zero_le _, by simp;omega, by rw [Z_size];omega⟩, Nat.sub_zero, List.getElem?_map, at0, List.getD_eq_getElem?_getD, List.getElem?_eq_getElem (by simp;omega)]
 rfl
theorem RW.some {w wr : World} {hs0 cs : Array Value} {b : List UInt8} {k : Nat} (h : RW w wr hs0 cs b k) (j : Nat) (hj : j < 64) : ∃ v, wr.cell? ⟨w.heap.size + 1 + 1 + 1, j, none⟩ = some v :=
 ⟨_, (h.2.2.2.1.cell j).trans (Array.getElem?_eq_getElem (by rw [lay_size, Z_size];exact hj))⟩
theorem rstep_calls (s : S8) (hs : s.ok) (b : List UInt8) (w : World) (hb : b.length = 64) :
  Calls Tryz.prog 93 #[.agg (s.list.map U).toArray, .agg (b.map B).toArray] w fun e w' => e = .returned (.agg ((stepOf s b).list.map U).toArray) ∧ Fr0 w w' := by
 have HC : Jq7 (∀ i (h : i < b.length), ((b.map B).toArray)[i]? = some (B b[i])) := jq7 (fun i h => by simp [h])
 have HZ : Jq7 (((b.map B).toArray).size = 64) := jq7 (by simp [hb])
 have HB := jq7 hb
 clear hb
 generalize hh : (s.list.map U).toArray = hs0 at *
 generalize hcs : (b.map B).toArray = cs at *
 generalize hres : ((stepOf s b).list.map U).toArray = res
 have HS := jq7 hs
 have HS1 : Jq7 (hs0.all (·.oneCell') = true) := jq7 (by rw [← hh];simp [U, S8.list, Value.oneCell'])
 have HS8 : Jq7 (hs0.size = 8) := jq7 (by rw [← hh];rfl)
 have HH := jq7 hh
 have HCS := jq7 hcs
 have HRES := jq7 hres
 clear hh hcs hres hs
 go_enter Tryz.func93, Tryz.ntmps93
 go_wp2
 go_loopw [6] (fun i wr => ∃ k : Nat, k ≤ 16 ∧ i = .int .i64 k ∧ RW w wr hs0 cs b k) (fun i _ => 16 - (intOf i).toNat)
 case atStart =>
  have e1 : (w.alloc (.cells hs0 112)).heap.size = w.heap.size + 1 := by simp
  have e2 : ((w.alloc (.cells hs0 112)).alloc (.cells cs 115)).heap.size = w.heap.size + 1 + 1 := by simp
  have e3 : (((w.alloc (.cells hs0 112)).alloc (.cells cs 115)).alloc (.cells Z8 112)).heap.size = w.heap.size + 1 + 1 + 1 := by simp
  have b1 := Bk.new (w.alloc (.cells hs0 112)) (.cells cs 115)
  have b2 := Bk.new ((w.alloc (.cells hs0 112)).alloc (.cells cs 115)) (.cells Z8 112)
  have b3 := Bk.new (((w.alloc (.cells hs0 112)).alloc (.cells cs 115)).alloc (.cells Z8 112)) (.cells Z 130)
  rw [e1] at b1
  rw [e2] at b2
  rw [e3] at b3
  exact ⟨0, by omega, rfl, Bk.alloc (Bk.alloc (Bk.alloc (Bk.new _ _) _) _) _, Bk.alloc (Bk.alloc b1 _) _, Bk.alloc b2 _, b3, Fr.alloc (Fr.alloc (Fr.alloc (Fr.alloc (Fr.refl _ _) _) _) _) _⟩
 case round =>
  obtain ⟨k, hk, rfl, hrw⟩ := hrel
  have HW := jq7 hrw
  clear hrw
  by_cases hlt : k < 16
  rotate_left
  ·have cz : decide ((k : Int) < 16) = false := decide_eq_false (by omega)
   have HW16 : Jq7 (RW w wr hs0 cs b 16) := jq7 (by
    have e : k = 16 := by omega
    subst e
    exact HW.o)
   clear HW hk hlt
   go_wp2
   go_loopw [7] (fun i wr => ∃ k : Nat, 16 ≤ k ∧ k ≤ 64 ∧ i = .int .i64 k ∧ RW w wr hs0 cs b k) (fun i _ => 64 - (intOf i).toNat)
   case atStart => exact ⟨16, by omega, by omega, rfl, HW16.o⟩
   case round =>
    obtain ⟨k, hk0, hk, rfl, hrw⟩ := hrel
    have HW := jq7 hrw
    clear HW16
    clear hrw
    by_cases hlt : k < 64
    rotate_left
    ·have cz : decide ((k : Int) < 64) = false := decide_eq_false (by omega)
     have HW64 : Jq7 (RW w wr hs0 cs b 64) := jq7 (by
      have e : k = 64 := by omega
      subst e
      exact HW.o)
     clear HW hk hk0 hlt
     go_wp2_with fail
     refine (roots_calls _).mono ?_
     rintro e w3 ⟨rfl, hf3⟩
     have HF3 := jq7 hf3
     have HN3 := jq7 (Bk.new w3 (.cells Z 130))
     have HW3 : Jq7 (RW w w3 hs0 cs b 64) := jq7 ⟨hf3.keep HW64.o.1 (fun h => h), hf3.keep HW64.o.2.1 (fun h => h), hf3.keep HW64.o.2.2.1 (fun h => h), hf3.keep HW64.o.2.2.2.1 (fun h => h), HW64.o.2.2.2.2.then0 hf3⟩
     have HH4 : Jq7 (Bk ((w3.alloc (.cells Z 130)).setRow w3.heap.size KC) w.heap.size hs0 112) := jq7 (ArrKit.Bk.rowOther (Bk.alloc HW3.o.1 _) _ (by have := Bk.lt HW3.o.1;omega))
     have HK4 : Jq7 (Bk ((w3.alloc (.cells Z 130)).setRow w3.heap.size KC) w3.heap.size KC 130) := jq7 (ArrKit.Bk.row HN3.o _)
     clear hf3
     have HN4 : Jq7 (Bk (((w3.alloc (.cells Z 130)).setRow w3.heap.size KC).alloc (.cells Z8 112)) (w3.heap.size + 1) Z8 112) := jq7 (by
      have := Bk.new ((w3.alloc (.cells Z 130)).setRow w3.heap.size KC) (.cells Z8 112)
      rwa [show ((w3.alloc (.cells Z 130)).setRow w3.heap.size KC).heap.size = w3.heap.size + 1 by simp] at this)
     go_wp2_with (first | (refine wpList_store_row rfl 112 _ _ rfl (w3.heap.size + 1) hs0 rfl rfl 112 Z8 HN4.o (by rw [HS8.o];exact info8a) (by rw [HS8.o];rfl) HS1.o ?_) | (refine wpList_store_row rfl 130 _ _ rfl w3.heap.size KC rfl rfl 130 Z HN3.o infoKC rfl KC_all ?_) | (refine wpList_load_row rfl 112 _ rfl w.heap.size rfl 112 hs0 (0, 0) _ HH4.o Tryz.underlying112 rfl (by rw [HS8.o];exact info8a) ?_))
     have W5V : Jq7 (Bk ((((w3.alloc (.cells Z 130)).setRow w3.heap.size KC).alloc (.cells Z8 112)).setRow (w3.heap.size + 1) hs0) (w3.heap.size + 1) hs0 112) := jq7 (ArrKit.Bk.row HN4.o _)
     have W5K : Jq7 (Bk ((((w3.alloc (.cells Z 130)).setRow w3.heap.size KC).alloc (.cells Z8 112)).setRow (w3.heap.size + 1) hs0) w3.heap.size KC 130) := jq7 (ArrKit.Bk.rowOther (Bk.alloc HK4.o _) _ (by omega))
     have hlt3 := Bk.lt HW3.o.2.2.2.1
     have hold : ∀ g o, g < w3.heap.size → w3.heap[g]? = some o → ((((w3.alloc (.cells Z 130)).setRow w3.heap.size KC).alloc (.cells Z8 112)).setRow (w3.heap.size + 1) hs0).heap[g]? = some o := fun g o hg h =>
      ArrKit.Bk.rowOther (Bk.alloc (ArrKit.Bk.rowOther (Bk.alloc h _) _ (by omega)) _) _ (by omega)
     have W5F : Jq7 (Fr0 w ((((w3.alloc (.cells Z 130)).setRow w3.heap.size KC).alloc (.cells Z8 112)).setRow (w3.heap.size + 1) hs0)) := jq7 (ArrKit.Fr.row (Fr.alloc (ArrKit.Fr.row (Fr.alloc HW3.o.2.2.2.2 _) _ _ (.inl (by omega))) _) _ _ (.inl (by omega)))
     have W5H := jq7 (hold _ _ (by omega) HW3.o.1)
     have W5R := jq7 (hold _ _ (by omega) HW3.o.2.2.1)
     have W5W := jq7 (hold _ _ (by omega) HW3.o.2.2.2.1)
     have HV : Jq7 (w.heap.size + 1 + 1 + 1 < w3.heap.size) := jq7 hlt3
     clear hold hlt3
     change Code.wp _ _ _ _ ((((w3.alloc (.cells Z 130)).setRow w3.heap.size KC).alloc (.cells Z8 112)).setRow (w3.heap.size + 1) hs0)
     generalize w3.heap.size = V at *
     generalize hw5 : ((((w3.alloc (.cells Z 130)).setRow V KC).alloc (.cells Z8 112)).setRow (V + 1) hs0) = w5 at *
     have HSL : Jq7 (∀ j, j < 64 → w5.cell? ⟨w.heap.size + 1 + 1 + 1, j, none⟩ = some (.int .u32 (at0 (sched b 64) j : Nat))) := jq7 (fun j hj => by
      rw [Bk.cell W5W.o, lay_get, if_pos ⟨Nat.zero_le _, by simp;omega, by rw [Z_size];omega⟩, Nat.sub_zero, List.getElem?_map, at0, List.getD_eq_getElem?_getD, List.getElem?_eq_getElem (by simp;omega)]
      rfl)
     go_loopw [12] (fun i wr => ∃ k : Nat, k ≤ 64 ∧ i = .int .i64 k ∧ Bk wr (V + 1) ((rounds cubes (sched b 64) s k).list.map U).toArray 112 ∧ Bk wr V KC 130 ∧ Bk wr w.heap.size hs0 112 ∧ Bk wr (w.heap.size + 1 + 1) Z8 112 ∧ Bk wr (w.heap.size + 1 + 1 + 1) (lay Z 0 ((sched b 64).map U)) 130 ∧ Fr0 w wr) (fun i _ => 64 - (intOf i).toNat)
     case atStart => exact ⟨0, by omega, rfl, by rw [rounds, HH.o];exact W5V.o, W5K.o, W5H.o, W5R.o, W5W.o, W5F.o⟩
     case round =>
      obtain ⟨k, hk, rfl, hv5, hk5, hh5, hr5, hw5', hf5⟩ := hrel
      have HV5 := jq7 hv5
      have HH5 := jq7 hh5
      have HR5 := jq7 hr5
      have HWb := jq7 hw5'
      have HK5 := jq7 hk5
      have HF5 := jq7 hf5
      have hok : (rounds cubes (sched b 64) s k).ok := rounds_ok HS.o k
      have HRr : Jq7 (rounds cubes (sched b 64) s (k + 1) = rnd (rounds cubes (sched b 64) s k) (at0 cubes k) (at0 (sched b 64) k)) := jq7 rfl
      clear hv5 hk5 hh5 hr5 hw5' hf5
      by_cases hlt : k < 64
      rotate_left
      ·have cz : decide ((k : Int) < 64) = false := decide_eq_false (by omega)
       have HV64 : Jq7 (Bk wr (V + 1) ((rounds cubes (sched b 64) s 64).list.map U).toArray 112) := jq7 (by
        have e : k = 64 := by omega
        subst e
        exact HV5.o)
       have hst : stepOf s b = stepSum s (rounds cubes (sched b 64) s 64) := rfl
       generalize rounds cubes (sched b 64) s 64 = r at *
       have HST := jq7 hst
       clear hst
       have HOl : Jq7 (∀ i, i < 8 → at0 (stepOf s b).list i = (at0 s.list i + at0 r.list i) % 4294967296) := jq7 (fun i hi => by
        rw [HST.o]
        exact step_at s r i hi)
       have HH8 : Jq7 (∀ i, i < 8 → hs0[i]? = some (.int .u32 (at0 s.list i : Nat))) := jq7 (fun i hi => by
        rw [← HH.o]
        exact list_cell s i hi)
       have HR8 : Jq7 (∀ i, i < 8 → (r.list.map U).toArray[i]? = some (.int .u32 (at0 r.list i : Nat))) := jq7 (fun i hi => list_cell r i hi)
       have HOL : Jq7 ((stepOf s b).list.length = 8) := jq7 rfl
       have HRS : Jq7 ((r.list.map U).toArray.size = 8) := jq7 (by simp [S8.list])
       generalize r.list = rl at *
       generalize (rl.map U).toArray = rc at *
       generalize (stepOf s b).list = out at *
       clear HST HRr hok HV5 HWb HK5 hk hlt
       go_wp2
       go_loopw [15] (fun i wr => ∃ k : Nat, k ≤ 8 ∧ i = .int .i64 k ∧ Bk wr (V + 1) (lay rc 0 ((out.map U).take k)) 112 ∧ Bk wr w.heap.size hs0 112 ∧ Bk wr (w.heap.size + 1 + 1) Z8 112 ∧ Fr0 w wr) (fun i _ => 8 - (intOf i).toNat)
       case atStart => exact ⟨0, by omega, rfl, HV64.o, HH5.o, HR5.o, HF5.o⟩
       case round =>
        obtain ⟨k, hk, rfl, hbv, hbh, hbr, hfr⟩ := hrel
        have LV := jq7 hbv
        have LH := jq7 hbh
        have LR := jq7 hbr
        have LF := jq7 hfr
        clear hbv hbh hbr hfr HH5 HR5 HF5 HV64
        by_cases hlt : k < 8
        rotate_left
        ·have cz : decide ((k : Int) < 8) = false := decide_eq_false (by omega)
         have LX : Jq7 (Bk wr (V + 1) (out.map U).toArray 112) := jq7 (by
          have e : k = 8 := by omega
          subst e
          have := LV.o
          rwa [List.take_of_length_le (by rw [List.length_map, HOL.o];exact Nat.le_refl _), lay_full _ _ (by rw [List.length_map, HOL.o, HRS.o])] at this)
         clear LV
         go_wp2_with (first | (refine wpList_load_row rfl 112 _ rfl (V + 1) rfl 112 _ (0, 0) _ LX.o Tryz.underlying112 rfl (by rw [info8a];simp [HOL.o]) ?_) | (refine wpList_store_row rfl 112 _ _ rfl (w.heap.size + 1 + 1) _ rfl rfl 112 Z8 LR.o (by rw [info8a];simp [HOL.o]) (by simp [HOL.o, Z8]) (by simp [U, Value.oneCell']) ?_))
         refine fin_c (w.heap.size + 1 + 1) 112 (out.map U).toArray (by rfl) (by rfl) (by rfl) Tryz.underlying112 (by rfl) (by rw [info8a];simp [HOL.o]) (ArrKit.Bk.row LR.o _) ?_
         rw [HRES.o]
         exact ⟨rfl, ArrKit.Fr.row LF.o _ _ (.inl (by omega))⟩
        ·have cz : decide ((k : Int) < 8) = true := decide_eq_true (by omega)
         have hcl : wr.cell? ⟨w.heap.size, k, none⟩ = some (.int .u32 (at0 s.list k : Nat)) := by
          rw [LH.o.cell]
          exact HH8.o k hlt
         have hcv : wr.cell? ⟨V + 1, k, none⟩ = some (.int .u32 (at0 rl k : Nat)) := by
          rw [LV.o.cell, lay_get, if_neg (by simp;omega)]
          exact HR8.o k hlt
         have hfz := LV.o.free k
         have HVV := jq7 (HOl.o k hlt)
         generalize at0 s.list k = p at *
         generalize at0 rl k = q at *
         have gk : (k : Int) < 8 := by omega
         have hfd : wr.drew.frozen? ⟨V + 1, k, none⟩ = false := hfz
         have hvd : wr.drew.cell? ⟨V + 1, k, none⟩ = some (.int .u32 (q : Nat)) := hcv
         have MV : Jq7 (Bk wr.drew (V + 1) _ 112) := jq7 LV.o
         have MH : Jq7 (Bk wr.drew w.heap.size hs0 112) := jq7 LH.o
         have MR : Jq7 (Bk wr.drew (w.heap.size + 1 + 1) Z8 112) := jq7 LR.o
         have MF : Jq7 (Fr0 w wr.drew) := jq7 LF.o.drew
         go_wp2_with fail
         go_still_tail 7, (by kernel_rfl)
         change wpList _ _ _ _ _ wr.drew
         clear hcl hcv hfz LV LH LR LF
         generalize wr.drew = w2 at *
         go_wp2
         have hv : (out.map U)[k]'(by rw [List.length_map, HOL.o];exact hlt) = .int .u32 (((q : Int) + p) % 4294967296) := by
          have h1 : out[k]'(by rw [HOL.o];exact hlt) = (p + q) % 4294967296 := by
           have := HVV.o
           rwa [at0, List.getD_eq_getElem?_getD, List.getElem?_eq_getElem (by rw [HOL.o];exact hlt)] at this
          rw [List.getElem_map, h1, Nat.add_comm, U]
          rfl
         refine ⟨⟨k + 1, by omega, by go_num, ?_, Bk.setOther MH.o _ _ (by have := HV.o;simp;omega), Bk.setOther MR.o _ _ (by have := HV.o;simp;omega), MF.o.set _ _ (.inl (by have := HV.o;simp;omega))⟩, by simp [intOf];omega⟩
         rw [lay_take (by rw [List.length_map, HOL.o];exact hlt), hv, Nat.zero_add]
         exact MV.o.set _ _
      ·have cz : decide ((k : Int) < 64) = true := decide_eq_true (by omega)
       have rw1 : wr.cell? ⟨w.heap.size + 1 + 1 + 1, k, none⟩ = some (.int .u32 (at0 (sched b 64) k : Nat)) := by
        rw [Bk.cell HWb.o, lay_get, if_pos ⟨Nat.zero_le _, by simp;omega, by rw [Z_size];omega⟩, Nat.sub_zero, List.getElem?_map, at0, List.getD_eq_getElem?_getD, List.getElem?_eq_getElem (by simp;omega)]
        rfl
       have rk1 : wr.cell? ⟨V, k, none⟩ = some (.int .u32 (at0 cubes k : Nat)) := (Bk.cell HK5.o k).trans (cubes_get k hlt)
       have hwl : at0 (sched b 64) k < 4294967296 := at0_lt k
       have hkl := cubes_lt k
       generalize rounds cubes (sched b 64) s k = r at *
       obtain ⟨a, b', c, d, e, f, g, h⟩ := r
       obtain ⟨l1, l2, l3, l4, l5, l6, l7, l8⟩ := hok
       simp only [] at l1 l2 l3 l4 l5 l6 l7 l8
       have v0 : wr.cell? ⟨V + 1, 0, none⟩ = some (.int .u32 (a : Int)) := (Bk.cell HV5.o 0).trans rfl
       have v1 : wr.cell? ⟨V + 1, 1, none⟩ = some (.int .u32 (b' : Int)) := (Bk.cell HV5.o 1).trans rfl
       have v2 : wr.cell? ⟨V + 1, 2, none⟩ = some (.int .u32 (c : Int)) := (Bk.cell HV5.o 2).trans rfl
       have v3 : wr.cell? ⟨V + 1, 3, none⟩ = some (.int .u32 (d : Int)) := (Bk.cell HV5.o 3).trans rfl
       have v4 : wr.cell? ⟨V + 1, 4, none⟩ = some (.int .u32 (e : Int)) := (Bk.cell HV5.o 4).trans rfl
       have v5 : wr.cell? ⟨V + 1, 5, none⟩ = some (.int .u32 (f : Int)) := (Bk.cell HV5.o 5).trans rfl
       have v6 : wr.cell? ⟨V + 1, 6, none⟩ = some (.int .u32 (g : Int)) := (Bk.cell HV5.o 6).trans rfl
       have v7 : wr.cell? ⟨V + 1, 7, none⟩ = some (.int .u32 (h : Int)) := (Bk.cell HV5.o 7).trans rfl
       generalize at0 cubes k = kt at *
       generalize at0 (sched b 64) k = xt at *
       obtain ⟨ne, hne⟩ : ∃ m, 4294967295 - e = m := ⟨_, rfl⟩
       have lne : ne < 4294967296 := by omega
       have x0 : bits .xor .u32 (if IntKind.u32.signed = true then -1 else IntKind.u32.max) (e : Int) = (ne : Int) := by
        have hm : (if IntKind.u32.signed = true then -1 else IntKind.u32.max) = (4294967295 : Int) := by decide
        rw [hm]
        have := not32 e l5
        rwa [hne] at this
       have HCH : Jq7 (e &&& f ^^^ ne &&& g = ch e f g) := jq7 (by rw [← hne];exact ch_eq l5 l7)
       have HB1 : Jq7 (rot e 6 ^^^ rot e 11 ^^^ rot e 25 = big1 e) := jq7 rfl
       have HB0 : Jq7 (rot a 2 ^^^ rot a 13 ^^^ rot a 22 = big0 a) := jq7 rfl
       have HMJ : Jq7 ((a &&& b') ^^^ (a &&& c) ^^^ (b' &&& c) = maj a b' c) := jq7 (maj_eq a b' c)
       have x1 := xor32 (rot e 6) (rot e 11) (rot_lt _ l5) (rot_lt _ l5)
       have x2 := xor32 (rot e 6 ^^^ rot e 11) (rot e 25) (xor_lt (rot_lt _ l5) (rot_lt _ l5)) (rot_lt _ l5)
       rw [HB1.o] at x2
       have x3 := and32 e f l5 l6
       have x4 := and32 ne g lne l7
       have x5 := xor32 (e &&& f) (ne &&& g) (and_lt l5) (and_lt lne)
       rw [HCH.o] at x5
       have y1 := xor32 (rot a 2) (rot a 13) (rot_lt _ l1) (rot_lt _ l1)
       have y2 := xor32 (rot a 2 ^^^ rot a 13) (rot a 22) (xor_lt (rot_lt _ l1) (rot_lt _ l1)) (rot_lt _ l1)
       rw [HB0.o] at y2
       have y3 := and32 a b' l1 l2
       have y4 := and32 a c l1 l3
       have y5 := and32 b' c l2 l3
       have y6 := xor32 (a &&& b') (a &&& c) (and_lt l1) (and_lt l1)
       have y7 := xor32 ((a &&& b') ^^^ (a &&& c)) (b' &&& c) (xor_lt (and_lt l1) (and_lt l1)) (and_lt l2)
       rw [HMJ.o] at y7
       clear hne
       go_wp2_with fail
       go_quiet (first | (go_at_call 103;with_reducible refine Calls.quiet_of (turn_6 e _ l5)) | (go_at_call 103;with_reducible refine Calls.quiet_of (turn_11 e _ l5)) | (go_at_call 103;with_reducible refine Calls.quiet_of (turn_25 e _ l5)))
       have v0d : (wr.drewN nq).cell? ⟨V + 1, 0, none⟩ = some (.int .u32 (a : Int)) := v0
       have v1d : (wr.drewN nq).cell? ⟨V + 1, 1, none⟩ = some (.int .u32 (b' : Int)) := v1
       have v2d : (wr.drewN nq).cell? ⟨V + 1, 2, none⟩ = some (.int .u32 (c : Int)) := v2
       have v3d : (wr.drewN nq).cell? ⟨V + 1, 3, none⟩ = some (.int .u32 (d : Int)) := v3
       have v4d : (wr.drewN nq).cell? ⟨V + 1, 4, none⟩ = some (.int .u32 (e : Int)) := v4
       have v5d : (wr.drewN nq).cell? ⟨V + 1, 5, none⟩ = some (.int .u32 (f : Int)) := v5
       have v6d : (wr.drewN nq).cell? ⟨V + 1, 6, none⟩ = some (.int .u32 (g : Int)) := v6
       have HVd : Jq7 (Bk (wr.drewN nq) (V + 1) _ 112) := jq7 HV5.o
       have HHd : Jq7 (Bk (wr.drewN nq) w.heap.size hs0 112) := jq7 HH5.o
       have HRd : Jq7 (Bk (wr.drewN nq) (w.heap.size + 1 + 1) Z8 112) := jq7 HR5.o
       have HWd : Jq7 (Bk (wr.drewN nq) (w.heap.size + 1 + 1 + 1) (lay Z 0 ((sched b 64).map U)) 130) := jq7 HWb.o
       have HKd : Jq7 (Bk (wr.drewN nq) V KC 130) := jq7 HK5.o
       have HFd : Jq7 (Fr0 w (wr.drewN nq)) := jq7 (HF5.o.drewN nq)
       clear v0 v1 v2 v3 v4 v5 v6 v7 HV5 HH5 HR5 HWb HK5 HF5 rw1 rk1
       change Exit.then _ _ _ _ (wr.drewN nq)
       generalize wr.drewN nq = w2 at *
       have hPe : ((((h : Int) + (big1 e : Nat) + (ch e f g : Nat) + kt) % 4294967296 + xt) % 4294967296) = ((tp ⟨a, b', c, d, e, f, g, h⟩ kt xt : Nat) : Int) := by simp only [tp];omega
       rw [hPe]
       clear hPe
       have hpl : tp ⟨a, b', c, d, e, f, g, h⟩ kt xt < 4294967296 := Nat.mod_lt _ (by decide)
       generalize hpn : tp ⟨a, b', c, d, e, f, g, h⟩ kt xt = P at *
       have HP := jq7 hpn
       clear hpn
       go_wp2_with fail
       go_quiet (first | (go_at_call 103;with_reducible refine Calls.quiet_of (turn_2 a _ l1)) | (go_at_call 103;with_reducible refine Calls.quiet_of (turn_13 a _ l1)) | (go_at_call 103;with_reducible refine Calls.quiet_of (turn_22 a _ l1)))
       have u0 : (w2.drewN nq).cell? ⟨V + 1, 0, none⟩ = some (.int .u32 (a : Int)) := v0d
       have u1 : (w2.drewN nq).cell? ⟨V + 1, 1, none⟩ = some (.int .u32 (b' : Int)) := v1d
       have u2 : (w2.drewN nq).cell? ⟨V + 1, 2, none⟩ = some (.int .u32 (c : Int)) := v2d
       have u3 : (w2.drewN nq).cell? ⟨V + 1, 3, none⟩ = some (.int .u32 (d : Int)) := v3d
       have u4 : (w2.drewN nq).cell? ⟨V + 1, 4, none⟩ = some (.int .u32 (e : Int)) := v4d
       have u5 : (w2.drewN nq).cell? ⟨V + 1, 5, none⟩ = some (.int .u32 (f : Int)) := v5d
       have u6 : (w2.drewN nq).cell? ⟨V + 1, 6, none⟩ = some (.int .u32 (g : Int)) := v6d
       have GV : Jq7 (Bk (w2.drewN nq) (V + 1) _ 112) := jq7 HVd.o
       have GH : Jq7 (Bk (w2.drewN nq) w.heap.size hs0 112) := jq7 HHd.o
       have GR : Jq7 (Bk (w2.drewN nq) (w.heap.size + 1 + 1) Z8 112) := jq7 HRd.o
       have GW : Jq7 (Bk (w2.drewN nq) (w.heap.size + 1 + 1 + 1) (lay Z 0 ((sched b 64).map U)) 130) := jq7 HWd.o
       have GK : Jq7 (Bk (w2.drewN nq) V KC 130) := jq7 HKd.o
       have GF : Jq7 (Fr0 w (w2.drewN nq)) := jq7 (HFd.o.drewN nq)
       clear v0d v1d v2d v3d v4d v5d v6d HVd HHd HRd HWd HKd HFd
       change Exit.then _ _ _ _ (w2.drewN nq)
       generalize w2.drewN nq = w3 at *
       have hQe : (((big0 a : Nat) : Int) + (maj a b' c : Nat)) % 4294967296 = ((tq ⟨a, b', c, d, e, f, g, h⟩ : Nat) : Int) := by simp only [tq];omega
       rw [hQe]
       clear hQe
       have hql : tq ⟨a, b', c, d, e, f, g, h⟩ < 4294967296 := Nat.mod_lt _ (by decide)
       generalize hqn : tq ⟨a, b', c, d, e, f, g, h⟩ = Q at *
       have HQ := jq7 hqn
       clear hqn
       go_wp2_with (first | (refine build_eq rfl 112 _ rfl #[.int .u32 (((P : Int) + Q) % 4294967296), .int .u32 (a : Int), .int .u32 (b' : Int), .int .u32 (c : Int), .int .u32 (((d : Int) + P) % 4294967296), .int .u32 (e : Int), .int .u32 (f : Int), .int .u32 (g : Int)] (by kernel_rfl) ?_) | (refine wpList_store_row rfl 112 _ _ rfl (V + 1) #[.int .u32 (((P : Int) + Q) % 4294967296), .int .u32 (a : Int), .int .u32 (b' : Int), .int .u32 (c : Int), .int .u32 (((d : Int) + P) % 4294967296), .int .u32 (e : Int), .int .u32 (f : Int), .int .u32 (g : Int)] rfl rfl 112 _ GV.o info8a (by simp [S8.list]) (by simp [Value.oneCell']) ?_))
       refine ⟨⟨k + 1, by omega, by go_num, ?_, ArrKit.Bk.rowOther GK.o _ (by omega), ArrKit.Bk.rowOther GH.o _ (by have := HV.o;omega), ArrKit.Bk.rowOther GR.o _ (by have := HV.o;omega), ArrKit.Bk.rowOther GW.o _ (by have := HV.o;omega), ArrKit.Fr.row GF.o _ _ (.inl (by have := HV.o;omega))⟩, by simp [intOf];omega⟩
       rw [HRr.o]
       refine Eq.subst (motive := fun z => Bk _ (V + 1) z 112) (rnd_cells a b' c d e f g h kt xt _ _ ?_ ?_) (ArrKit.Bk.row GV.o _)
       ·have hA : (rnd ⟨a, b', c, d, e, f, g, h⟩ kt xt).a = (tp ⟨a, b', c, d, e, f, g, h⟩ kt xt + tq ⟨a, b', c, d, e, f, g, h⟩) % 4294967296 := rfl
        rw [hA, HP.o, HQ.o]
        omega
       ·have hE : (rnd ⟨a, b', c, d, e, f, g, h⟩ kt xt).e = (d + tp ⟨a, b', c, d, e, f, g, h⟩ kt xt) % 4294967296 := rfl
        rw [hE, HP.o]
        omega
    ·have cz : decide ((k : Int) < 64) = true := decide_eq_true (by omega)
     have r2 := HW.o.cell hk (k - 2) (by omega)
     have r15 := HW.o.cell hk (k - 15) (by omega)
     have r16 := HW.o.cell hk (k - 16) (by omega)
     have r7 := HW.o.cell hk (k - 7) (by omega)
     have i2 : (0 : Int) ≤ (k : Int) - 2 := by omega
     have i15 : (0 : Int) ≤ (k : Int) - 15 := by omega
     have j2 : (k : Int) - 2 < 64 := by omega
     have j15 : (k : Int) - 15 < 64 := by omega
     have k2 : 2 ≤ k := by omega
     have k15 : 15 ≤ k := by omega
     have i16 : (0 : Int) ≤ (k : Int) - 16 := by omega
     have i7 : (0 : Int) ≤ (k : Int) - 7 := by omega
     have j16 : (k : Int) - 16 < 64 := by omega
     have j7 : (k : Int) - 7 < 64 := by omega
     have k16 : 16 ≤ k := by omega
     have k7 : 7 ≤ k := by omega
     have HX : Jq7 (sched b (k + 1) = sched b k ++ [wnext (sched b k)]) := jq7 (by rw [sched, if_neg (by omega)])
     have HN : Jq7 (wnext (sched b k) = (at0 (sched b k) (k - 16) + s0 (at0 (sched b k) (k - 15)) + at0 (sched b k) (k - 7) + s1 (at0 (sched b k) (k - 2))) % 4294967296) := jq7 (by simp [wnext])
     have hx : at0 (sched b k) (k - 15) < 4294967296 := at0_lt _
     have hy : at0 (sched b k) (k - 2) < 4294967296 := at0_lt _
     have hu : at0 (sched b k) (k - 16) < 4294967296 := at0_lt _
     have hv : at0 (sched b k) (k - 7) < 4294967296 := at0_lt _
     obtain ⟨v1, hv1⟩ := HW.o.some k (by omega)
     have hfz := HW.o.2.2.2.1.free k
     generalize at0 (sched b k) (k - 15) = x at *
     generalize at0 (sched b k) (k - 2) = y at *
     generalize at0 (sched b k) (k - 16) = u at *
     generalize at0 (sched b k) (k - 7) = v at *
     generalize wnext (sched b k) = nx at *
     have e1 := xor32 (rot x 7) (rot x 18) (rot_lt _ hx) (rot_lt _ hx)
     have e2 := xor32 (rot x 7 ^^^ rot x 18) (x / 8) (xor_lt (rot_lt _ hx) (rot_lt _ hx)) (by omega)
     have e3 := xor32 (rot y 17) (rot y 19) (rot_lt _ hy) (rot_lt _ hy)
     have e4 := xor32 (rot y 17 ^^^ rot y 19) (y / 1024) (xor_lt (rot_lt _ hy) (rot_lt _ hy)) (by omega)
     have HE : Jq7 (rot x 7 ^^^ rot x 18 ^^^ x / 8 = s0 x ∧ rot y 17 ^^^ rot y 19 ^^^ y / 1024 = s1 y) := jq7 ⟨rfl, rfl⟩
     rw [HE.o.1] at e2
     rw [HE.o.2] at e4
     simp only [Int.natCast_ediv, Int.cast_ofNat_Int] at e2 e4
     have f16 : IntKind.i64.wrap ((k : Int) - 16) = ((k - 16 : Nat) : Int) := by simp [IntKind.wrap, IntKind.bits, IntKind.signed];omega
     have f7 : IntKind.i64.wrap ((k : Int) - 7) = ((k - 7 : Nat) : Int) := by simp [IntKind.wrap, IntKind.bits, IntKind.signed];omega
     have g16 : ((k - 16 : Nat) : Int) < 64 := by omega
     have g7 : ((k - 7 : Nat) : Int) < 64 := by omega
     have gk : (k : Int) < 64 := by omega
     go_wp2
     go_quiet (fail)
     have HW2 : Jq7 (RW w (wr.drewN nq) hs0 cs b k) := jq7 (HW.o.drewN nq)
     have hvd : (wr.drewN nq).cell? ⟨w.heap.size + 1 + 1 + 1, k, none⟩ = some v1 := hv1
     have hfd : (wr.drewN nq).frozen? ⟨w.heap.size + 1 + 1 + 1, k, none⟩ = false := hfz
     have r7d : (wr.drewN nq).cell? ⟨w.heap.size + 1 + 1 + 1, k - 7, none⟩ = some (.int .u32 (v : Int)) := r7
     have r16d : (wr.drewN nq).cell? ⟨w.heap.size + 1 + 1 + 1, k - 16, none⟩ = some (.int .u32 (u : Int)) := r16
     clear r2 r15 r7 r16 hv1 hfz HW
     change Exit.then _ _ _ _ (wr.drewN nq)
     generalize wr.drewN nq = w2 at *
     go_wp2_with fail
     go_region_held3 (fun w' => w'.cell? ⟨w.heap.size + 1 + 1 + 1, k - 7, none⟩ = some (.int .u32 (v : Int)) ∧ w'.cell? ⟨w.heap.size + 1 + 1 + 1, k - 16, none⟩ = some (.int .u32 (u : Int))) (first | go_keep | exact ⟨r7d, r16d⟩ | exact ⟨keep_set r7d (by omega), keep_set r16d (by omega)⟩)
      (first | (go_at_call 103;(with_reducible refine (turn_17 y _ hy).mono ?_);rintro e wx ⟨rfl, m, rfl⟩) | (go_at_call 103;(with_reducible refine (turn_19 y _ hy).mono ?_);rintro e wx ⟨rfl, m, rfl⟩) | (go_at_call 103;(with_reducible refine (turn_7 x _ hx).mono ?_);rintro e wx ⟨rfl, m, rfl⟩) | (go_at_call 103;(with_reducible refine (turn_18 x _ hx).mono ?_);rintro e wx ⟨rfl, m, rfl⟩))
     have HW3 : Jq7 (∀ q, RW w (w2.drewN q) hs0 cs b k) := jq7 (fun q => HW2.o.drewN q)
     go_wp2
     refine ⟨⟨k + 1, by omega, by omega, by go_num, RW.next_eq (HW3.o _) HX.o (by rw [HN.o];omega)⟩, by simp [intOf];omega⟩
  ·have cz : decide ((k : Int) < 16) = true := decide_eq_true (by omega)
   have hby : ∀ j, j < 4 → wr.cell? ⟨w.heap.size + 1, 4 * k + j, none⟩ = some (.int .u8 (byte b (4 * k + j) : Nat)) := fun j hj => by
    rw [HW.o.2.1.cell, HC.o _ (by rw [HB.o];omega)]
    simp [byte, B, List.getD, List.getElem?_eq_getElem (show 4 * k + j < b.length by rw [HB.o];omega)]
   have b0 := hby 0 (by omega)
   have b1 := hby 1 (by omega)
   have b2 := hby 2 (by omega)
   have b3 := hby 3 (by omega)
   simp only [Nat.add_zero] at b0
   have l0 := byte_lt8 b (4 * k)
   have l1 := byte_lt8 b (4 * k + 1)
   have l2 := byte_lt8 b (4 * k + 2)
   have l3 := byte_lt8 b (4 * k + 3)
   have HX : Jq7 (sched b (k + 1) = sched b k ++ [word b k]) := jq7 (by simp [sched, hlt])
   have HWd : Jq7 (word b k = byte b (4 * k) * 16777216 ||| byte b (4 * k + 1) * 65536 ||| byte b (4 * k + 2) * 256 ||| byte b (4 * k + 3)) := jq7 rfl
   obtain ⟨v1, hv1⟩ := HW.o.some k (by omega)
   have hfz := HW.o.2.2.2.1.free k
   clear hby
   generalize byte b (4 * k) = q0 at *
   generalize byte b (4 * k + 1) = q1 at *
   generalize byte b (4 * k + 2) = q2 at *
   generalize byte b (4 * k + 3) = q3 at *
   have e1 := or32 (q0 * 16777216) (q1 * 65536) (by omega) (by omega)
   have e2 := or32 (q0 * 16777216 ||| q1 * 65536) (q2 * 256) (or_lt (by omega) (by omega)) (by omega)
   have e3 := or32 (q0 * 16777216 ||| q1 * 65536 ||| q2 * 256) q3 (or_lt (or_lt (by omega) (by omega)) (by omega)) (by omega)
   simp only [Int.natCast_mul, Int.cast_ofNat_Int] at e1 e2 e3
   obtain ⟨m0, hm0⟩ : ∃ m, 4 * k = m := ⟨_, rfl⟩
   obtain ⟨m1, hm1⟩ : ∃ m, 4 * k + 1 = m := ⟨_, rfl⟩
   obtain ⟨m2, hm2⟩ : ∃ m, 4 * k + 2 = m := ⟨_, rfl⟩
   obtain ⟨m3, hm3⟩ : ∃ m, 4 * k + 3 = m := ⟨_, rfl⟩
   rw [hm0] at b0
   rw [hm1] at b1
   rw [hm2] at b2
   rw [hm3] at b3
   have f0 : IntKind.i64.wrap (4 * (k : Int)) = (m0 : Int) := by simp [IntKind.wrap, IntKind.bits, IntKind.signed];omega
   have f1 : IntKind.i64.wrap ((m0 : Int) + 1) = (m1 : Int) := by simp [IntKind.wrap, IntKind.bits, IntKind.signed];omega
   have f2 : IntKind.i64.wrap ((m0 : Int) + 2) = (m2 : Int) := by simp [IntKind.wrap, IntKind.bits, IntKind.signed];omega
   have f3 : IntKind.i64.wrap ((m0 : Int) + 3) = (m3 : Int) := by simp [IntKind.wrap, IntKind.bits, IntKind.signed];omega
   have g0 : (m0 : Int) < 64 := by omega
   have g1 : (m1 : Int) < 64 := by omega
   have g2 : (m2 : Int) < 64 := by omega
   have g3 : (m3 : Int) < 64 := by omega
   have p0 : m0 < 64 := by omega
   have p1 : m1 < 64 := by omega
   have p2 : m2 < 64 := by omega
   have p3 : m3 < 64 := by omega
   clear hm0 hm1 hm2 hm3
   go_wp2_with fail
   go_still_tail 30, (by kernel_rfl)
   change wpList _ _ _ _ _ wr.drew
   have HW2 : Jq7 (RW w wr.drew hs0 cs b k) := jq7 HW.o.drew
   have hvd : wr.drew.cell? ⟨w.heap.size + 1 + 1 + 1, k, none⟩ = some v1 := hv1
   have hfd : wr.drew.frozen? ⟨w.heap.size + 1 + 1 + 1, k, none⟩ = false := hfz
   clear b0 b1 b2 b3 hv1 hfz HW
   generalize wr.drew = w2 at *
   go_wp2
   refine ⟨⟨k + 1, by omega, by go_num, ?_⟩, by simp [intOf];omega⟩
   have := HW2.o.next HX.o
   rwa [HWd.o] at this

end Go.Proofs.YtmkmpfnadcmcoaaGreatDoor.ShaRef
namespace Go.Proofs.YtmkmpfnadcmcoaaGreatDoor.RefCopy
open Go Go.RowKit K HeldKit
theorem info8 : (Tryz.prog.info? 5).map (fun i => (i.zero, i.size, i.bytes)) = some (some (.int .u8 0), 1, 1) := by kernel_rfl
structure Own (w : World) (g n cap : Nat) (cur : Array Value) (l : List UInt8) : Prop where
 blk : Bk w g cur 5
 len : l.length = n
 room : n ≤ cap
 size : cur.size = cap
 cap : cap ≤ 9223372036854775807
 here : ∀ i (h : i < l.length), cur[i]? = some (B l[i])
theorem Own.rd {w : World} {g n cap : Nat} {cur : Array Value} {l : List UInt8} (h : Own w g n cap cur l) : Rd w (some ⟨g, 0, none⟩) l := Rd.block h.blk (fun i hi => by rw [Nat.zero_add];exact h.here i hi)
theorem Own.drew {w : World} {g n cap : Nat} {cur : Array Value} {l : List UInt8} (h : Own w g n cap cur l) : Own w.drew g n cap cur l := ⟨h.blk, h.len, h.room, h.size, h.cap, h.here⟩
theorem Own.keep {S : Nat → Prop} {w w' : World} {g n cap : Nat} {cur : Array Value} {l : List UInt8} (h : Own w g n cap cur l) (f : Fr S w w') (hs : ¬ S g) : Own w' g n cap cur l := ⟨f.keep h.blk hs, h.len, h.room, h.size, h.cap, h.here⟩
def CopyPost (n : Nat) (l : List UInt8) (w : World) (e : Ending) (w' : World) : Prop :=
 ∃ g cap cur, e = .returned (.slice (some ⟨g, 0, none⟩) n cap) ∧ w.heap.size ≤ g ∧ Own w' g n cap cur l ∧ Fr0 w w'

theorem copy_empty (a : Option Addr) (c : Nat) (w : World) : Calls Tryz.prog 102 #[.slice a 0 c] w (CopyPost 0 [] w) := by
 have hst : ∀ (W : World) (g : Nat), (storeCells ⟨g, 0, none⟩ []).run Tryz.prog W = .ok () W := fun W g => by simp [storeCells]
 have hld : ∀ (W : World) (x : Addr), (loadCells x 0).run Tryz.prog W = .ok #[] W := fun W x => by simp [loadCells, loadCellsFrom]
 cases a with
 | none =>
  go_enter Tryz.func102, Tryz.ntmps102
  go_wp2
  go_ret
  exact ⟨w.heap.size, 0, #[], rfl, Nat.le_refl _, ⟨Bk.new _ _, rfl, Nat.le_refl _, rfl, by omega, fun i h => by simp at h⟩, Fr.alloc (Fr.refl _ _) _⟩
 | some x =>
  go_enter Tryz.func102, Tryz.ntmps102
  go_wp2
  go_ret
  exact ⟨w.heap.size, 0, #[], rfl, Nat.le_refl _, ⟨Bk.new _ _, rfl, Nat.le_refl _, rfl, by omega, fun i h => by simp at h⟩, Fr.alloc (Fr.refl _ _) _⟩
theorem copy_some (b o n c : Nat) (l : List UInt8) (w : World) (hl : l.length = n) (hrd : Rd w (some ⟨b, o, none⟩) l) (h0 : 0 < n) (hn : n ≤ 140737488351232) :
  Calls Tryz.prog 102 #[.slice (some ⟨b, o, none⟩) n c] w (CopyPost n l w) := by
 obtain ⟨i8, hi, hz0, hz1, hz2⟩ := info_parts info8
 obtain ⟨b', o', e, hbw, hcell⟩ := hrd.form (by omega)
 obtain ⟨rfl, rfl⟩ : b = b' ∧ o = o' := by simpa using e
 have H1 : Jq7 ((w.alloc (.cells #[] 5)).ownsRow w.heap.size 5 1 (.slice (some ⟨w.heap.size, 0, none⟩) 0 0) 0 []) :=
  jq7 ⟨rfl, .inr ⟨w.heap.size, 0, #[], rfl, Nat.le_refl _, Bk.new _ _, Nat.le_refl _, by unfold maxLen;omega, rfl, rfl⟩⟩
 have H2 : Jq7 ((l.map B).length = n * 1) := jq7 (by simp;omega)
 have H3 : Jq7 (∀ (j : Nat) u, (l.map B)[j]? = some u → (w.alloc (.cells #[] 5)).cell? ((⟨b, o, none⟩ : Addr).add j) = some u) := jq7 (fun j u hu => by
  rw [List.getElem?_map, Option.map_eq_some_iff] at hu
  obtain ⟨x, hx, rfl⟩ := hu
  obtain ⟨hj, hx⟩ := List.getElem?_eq_some_iff.1 hx
  rw [add_form, (Fr.alloc (Fr.refl (fun _ => False) w) _).cell b (o + j) hbw (fun h => h), hcell j hj, hx])
 have H4 : Jq7 (∀ u ∈ l.map B, u.oneCell' = true) := jq7 (fun u hu => by
  obtain ⟨x, -, rfl⟩ := List.mem_map.1 hu
  rfl)
 have H8 : Jq7 ((w.alloc (.cells #[] 5)).heap.size = w.heap.size + 1) := jq7 (by simp)
 have H9 : Jq7 (i8.zero = some (.int .u8 0) ∧ i8.size = 1 ∧ i8.bytes = 1 ∧ Tryz.prog.info? 5 = some i8) := jq7 ⟨hz0, hz1, hz2, hi⟩
 clear hz0 hz1 hz2 hi hrd e hcell
 go_enter Tryz.func102, Tryz.ntmps102
 go_wp2_with (at_builtin;refine wpList_append_lies _ (by rfl) (.tmp 3) (.tmp 4) 93 (by rfl) w.heap.size 5 i8 (.int .u8 0) 1 1 Tryz.underlying93 H9.o.2.2.2 H9.o.1 H9.o.2.1 H9.o.2.2.1 rfl (by omega) (.slice (some ⟨w.heap.size, 0, none⟩) 0 0) 0 [] (by rfl) H1.o ⟨b, o, none⟩ n c (l.map B) (by rfl) H2.o H3.o H4.o h0 (by unfold maxLen;omega) (by omega) (by rw [H8.o];omega) (w.heap.size + 1) H8.o ?_;intro g cap w1 hown hgrow hat hlt)
 go_ret
 rw [Nat.zero_add, List.nil_append] at hown
 obtain ⟨hw1, hw2⟩ := hown
 rcases hw2 with ⟨hw2, -⟩ | ⟨g', cap', cur, e, hge, hbk, hcap, hmax, hsz, htake⟩
 ·cases hw2
 simp only [Value.slice.injEq, Option.some.injEq, Addr.mk.injEq, and_true, true_and] at e
 obtain ⟨rfl, rfl⟩ := e
 refine ⟨g, cap, cur, rfl, hge, ⟨hbk, hl, hcap, by omega, ?_, ?_⟩, ?_⟩
 ·have : maxLen = 9223372036854775807 := rfl
  omega
 ·intro i hi
  have h1 : (cur.toList.take n)[i]? = some (B l[i]) := by
   have : cur.toList.take n = l.map B := by simpa using htake
   rw [this];simp [hi]
  rw [List.getElem?_take] at h1
  split at h1
  ·simpa using h1
  ·cases h1
 ·refine ⟨hgrow.os, hgrow.tape, hgrow.output, ?_, fun i hi _ => ?_⟩
  ·have := hgrow.size;rw [H8.o] at this;omega
  ·refine (hgrow.block i (by rw [H8.o];omega) ?_).trans (al_old w _ i hi)
   simp only [Value.ownBlock]
   intro h;cases h;omega
theorem copy_calls (a : Option Addr) (n c : Nat) (l : List UInt8) (w : World) (hl : l.length = n) (hrd : Rd w a l) (hn : n ≤ 140737488351232) :
  Calls Tryz.prog 102 #[.slice a n c] w (CopyPost n l w) := by
 by_cases h0 : n = 0
 ·subst h0
  have : l = [] := List.eq_nil_of_length_eq_zero hl
  subst this
  exact copy_empty a c w
 ·obtain ⟨b, o, rfl, -, -⟩ := hrd.form (by omega)
  exact copy_some b o n c l w hl hrd (by omega) hn

theorem ret_b {a b : Bool} (h : a = b) : Ending.returned (.bool a) = .returned (.bool b) := by rw [h]
end Go.Proofs.YtmkmpfnadcmcoaaGreatDoor.RefCopy
