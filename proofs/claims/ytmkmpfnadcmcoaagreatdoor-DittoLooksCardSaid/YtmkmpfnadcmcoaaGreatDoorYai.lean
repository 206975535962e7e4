/- The theorems that the claim uses, text behind text (part 9). -/
import Derived.Test.YtmkmpfnadcmcoaaGreatDoorYah
set_option maxRecDepth 100000
set_option maxHeartbeats 8000000
set_option linter.unusedVariables false
set_option linter.unusedSimpArgs false
namespace Go.Proofs.YtmkmpfnadcmcoaaGreatDoor.ShaStep
open Go Go.RowKit K ShaRot ArrKit ShaSpread HeldKit
structure S8 where
 (a b c d e f g h : Nat)
def S8.ok (s : S8) : Prop := s.a < 4294967296 ∧ s.b < 4294967296 ∧ s.c < 4294967296 ∧ s.d < 4294967296 ∧ s.e < 4294967296 ∧ s.f < 4294967296 ∧ s.g < 4294967296 ∧ s.h < 4294967296
def S8.list (s : S8) : List Nat := [s.a, s.b, s.c, s.d, s.e, s.f, s.g, s.h]
def big0 (a : Nat) : Nat := rot a 2 ^^^ rot a 13 ^^^ rot a 22
def big1 (e : Nat) : Nat := rot e 6 ^^^ rot e 11 ^^^ rot e 25
def ch (e f g : Nat) : Nat := g ^^^ (e &&& (f ^^^ g))
def maj (a b c : Nat) : Nat := (a &&& b) ||| (c &&& (a ||| b))
def tp (s : S8) (k w : Nat) : Nat := (s.h + big1 s.e + ch s.e s.f s.g + k + w) % 4294967296
def tq (s : S8) : Nat := (big0 s.a + maj s.a s.b s.c) % 4294967296
def rnd (s : S8) (k w : Nat) : S8 := ⟨(tp s k w + tq s) % 4294967296, s.a, s.b, s.c, (s.d + tp s k w) % 4294967296, s.e, s.f, s.g⟩
def rounds (K W : List Nat) (s : S8) : Nat → S8
 | 0 => s
 | t + 1 => rnd (rounds K W s t) (at0 K t) (at0 W t)
theorem rnd_ok {s : S8} (h : s.ok) (k w : Nat) : (rnd s k w).ok := by
 obtain ⟨h1, h2, h3, h4, h5, h6, h7, h8⟩ := h
 exact ⟨Nat.mod_lt _ (by decide), h1, h2, h3, Nat.mod_lt _ (by decide), h5, h6, h7⟩
theorem rounds_ok {K W : List Nat} {s : S8} (h : s.ok) (t : Nat) : (rounds K W s t).ok := by
 induction t with
 | zero => exact h
 | succ t ih => exact rnd_ok ih _ _
def cubes : List Nat := [1116352408, 1899447441, 3049323471, 3921009573, 961987163, 1508970993, 2453635748, 2870763221, 3624381080, 310598401, 607225278, 1426881987, 1925078388, 2162078206, 2614888103, 3248222580, 3835390401, 4022224774, 264347078, 604807628, 770255983, 1249150122, 1555081692, 1996064986, 2554220882, 2821834349, 2952996808, 3210313671, 3336571891, 3584528711, 113926993, 338241895, 666307205, 773529912, 1294757372, 1396182291, 1695183700, 1986661051, 2177026350, 2456956037, 2730485921, 2820302411, 3259730800, 3345764771, 3516065817, 3600352804, 4094571909, 275423344, 430227734, 506948616, 659060556, 883997877, 958139571, 1322822218, 1537002063, 1747873779, 1955562222, 2024104815, 2227730452, 2361852424, 2428436474, 2756734187, 3204031479, 3329325298]
def begins : S8 := ⟨1779033703, 3144134277, 1013904242, 2773480762, 1359893119, 2600822924, 528734635, 1541459225⟩
def stepOf (s : S8) (b : List UInt8) : S8 :=
 let r := rounds cubes (sched b 64) s 64
 ⟨(s.a + r.a) % 4294967296, (s.b + r.b) % 4294967296, (s.c + r.c) % 4294967296, (s.d + r.d) % 4294967296, (s.e + r.e) % 4294967296, (s.f + r.f) % 4294967296, (s.g + r.g) % 4294967296, (s.h + r.h) % 4294967296⟩
theorem stepOf_ok (s : S8) (b : List UInt8) : (stepOf s b).ok := by
 refine ⟨?_, ?_, ?_, ?_, ?_, ?_, ?_, ?_⟩ <;> exact Nat.mod_lt _ (by decide)

def Z8 : Array Value := #[.int .u32 0, .int .u32 0, .int .u32 0, .int .u32 0, .int .u32 0, .int .u32 0, .int .u32 0, .int .u32 0]
def KC : Array Value := (cubes.map U).toArray
theorem cubes_get (k : Nat) (h : k < 64) : KC[k]? = some (.int .u32 (at0 cubes k : Nat)) := by
 simp only [KC, at0, List.getD_eq_getElem?_getD]
 rw [List.getElem?_toArray, List.getElem?_map, List.getElem?_eq_getElem (show k < cubes.length from h)]
 rfl
theorem cubes_lt (k : Nat) : at0 cubes k < 4294967296 := by
 have : ∀ x ∈ cubes, x < 4294967296 := by decide
 unfold at0
 rw [List.getD_eq_getElem?_getD]
 cases h : cubes[k]? with
 | none => simp
 | some x => exact this x (List.mem_of_getElem? h)
theorem info8a : (Tryz.prog.info? 112).map (·.size) = some 8 := by kernel_rfl
theorem u32_eq {a b : Int} (h : a = b) : Value.int .u32 a = .int .u32 b := by rw [h]
theorem index_arr {t e : TypeId} {n : Nat} {P : Program} {cs : Array Value} {v : Value} {k : Nat} (w : World) (hu : P.underlying t = some (.array n e)) (hs : (P.info? e).map (·.size) = some 1) (ha : (isAgg e).run P w = .ok false w) (hk : k < n) (hv : cs[k]? = some v) :
  (Instr.index t (.agg cs) (.int .i64 (k : Int))).run P w = .ok v w := by
 have hn : (0 ≤ (k : Int) ∧ (k : Int) < (n : Int)) := by omega
 cases hq : P.info? e with
 | none => simp [hq] at hs
 | some i =>
  have hi : i.size = 1 := by simpa [hq] using hs
  simp [Instr.index, run_underlying hu, asIntOf, hn, hk, go_sem, sizeOf, typeInfo, hq, hi, ha, hv]
theorem step_calls (s : S8) (hs : s.ok) (b : List UInt8) (w : World) (hb : b.length = 64) {tk : TypeId} (hK : Bk w 1 KC tk) :
  Calls Tryz.prog 84 #[.agg (s.list.map U).toArray, .agg (b.map B).toArray] w fun e w' => e = .returned (.agg ((stepOf s b).list.map U).toArray) ∧ Fr0 w w' := by
 have HS := jq7 hs
 generalize hres : ((stepOf s b).list.map U).toArray = res
 have HRES := jq7 hres
 clear hres
 obtain ⟨a0, b0, c0, d0, e0, f0, g0, h0⟩ := s
 have HB := jq7 hb
 have hsz : ((b.map B).toArray).size = 64 := by simp [hb]
 have hcs : Jq7 ((b.map B).toArray = (b.map B).toArray) := jq7 rfl
 have HKl := jq7 (Bk.lt hK)
 have HK := jq7 hK
 clear hs hb hK
 simp only [S8.list, List.map_cons, List.map_nil, U]
 generalize hcs2 : (b.map B).toArray = cs at *
 have HC := jq7 hcs2
 have hz : cs.size = 64 := hsz
 have hinfo : (Tryz.prog.info? 115).map (·.size) = some 64 := by kernel_rfl
 have HI := jq7 hinfo
 have HZ := jq7 hz
 clear hcs2 hsz hcs hz hinfo
 go_enter Tryz.func84, Tryz.ntmps84
 go_wp2_with fail
 go_quiet (fail)
 have HH : Jq7 (Bk ((((w.alloc (.cells #[.int .u32 (a0 : Nat), .int .u32 (b0 : Nat), .int .u32 (c0 : Nat), .int .u32 (d0 : Nat), .int .u32 (e0 : Nat), .int .u32 (f0 : Nat), .int .u32 (g0 : Nat), .int .u32 (h0 : Nat)] 112)).alloc (.cells cs 115)).alloc (.cells Z8 112)).drewN nq) w.heap.size #[.int .u32 (a0 : Nat), .int .u32 (b0 : Nat), .int .u32 (c0 : Nat), .int .u32 (d0 : Nat), .int .u32 (e0 : Nat), .int .u32 (f0 : Nat), .int .u32 (g0 : Nat), .int .u32 (h0 : Nat)] 112) := jq7 (Bk.alloc (Bk.alloc (Bk.new _ _) _) _)
 have HD : Jq7 (Bk ((((w.alloc (.cells #[.int .u32 (a0 : Nat), .int .u32 (b0 : Nat), .int .u32 (c0 : Nat), .int .u32 (d0 : Nat), .int .u32 (e0 : Nat), .int .u32 (f0 : Nat), .int .u32 (g0 : Nat), .int .u32 (h0 : Nat)] 112)).alloc (.cells cs 115)).alloc (.cells Z8 112)).drewN nq) (w.heap.size + 1) cs 115) := jq7 (Bk.alloc (by have := Bk.new (w.alloc (.cells #[.int .u32 (a0 : Nat), .int .u32 (b0 : Nat), .int .u32 (c0 : Nat), .int .u32 (d0 : Nat), .int .u32 (e0 : Nat), .int .u32 (f0 : Nat), .int .u32 (g0 : Nat), .int .u32 (h0 : Nat)] 112)) (.cells cs 115);rwa [show (w.alloc (.cells #[.int .u32 (a0 : Nat), .int .u32 (b0 : Nat), .int .u32 (c0 : Nat), .int .u32 (d0 : Nat), .int .u32 (e0 : Nat), .int .u32 (f0 : Nat), .int .u32 (g0 : Nat), .int .u32 (h0 : Nat)] 112)).heap.size = w.heap.size + 1 by simp] at this) _)
 have HR : Jq7 (Bk ((((w.alloc (.cells #[.int .u32 (a0 : Nat), .int .u32 (b0 : Nat), .int .u32 (c0 : Nat), .int .u32 (d0 : Nat), .int .u32 (e0 : Nat), .int .u32 (f0 : Nat), .int .u32 (g0 : Nat), .int .u32 (h0 : Nat)] 112)).alloc (.cells cs 115)).alloc (.cells Z8 112)).drewN nq) (w.heap.size + 1 + 1) Z8 112) := jq7 (by have := Bk.new ((w.alloc (.cells #[.int .u32 (a0 : Nat), .int .u32 (b0 : Nat), .int .u32 (c0 : Nat), .int .u32 (d0 : Nat), .int .u32 (e0 : Nat), .int .u32 (f0 : Nat), .int .u32 (g0 : Nat), .int .u32 (h0 : Nat)] 112)).alloc (.cells cs 115)) (.cells Z8 112);rwa [show ((w.alloc (.cells #[.int .u32 (a0 : Nat), .int .u32 (b0 : Nat), .int .u32 (c0 : Nat), .int .u32 (d0 : Nat), .int .u32 (e0 : Nat), .int .u32 (f0 : Nat), .int .u32 (g0 : Nat), .int .u32 (h0 : Nat)] 112)).alloc (.cells cs 115)).heap.size = w.heap.size + 1 + 1 by simp] at this)
 have HK0 : Jq7 (Bk ((((w.alloc (.cells #[.int .u32 (a0 : Nat), .int .u32 (b0 : Nat), .int .u32 (c0 : Nat), .int .u32 (d0 : Nat), .int .u32 (e0 : Nat), .int .u32 (f0 : Nat), .int .u32 (g0 : Nat), .int .u32 (h0 : Nat)] 112)).alloc (.cells cs 115)).alloc (.cells Z8 112)).drewN nq) 1 KC tk) := jq7 (Bk.alloc (Bk.alloc (Bk.alloc HK.o _) _) _)
 have HF0 : Jq7 (Fr0 w ((((w.alloc (.cells #[.int .u32 (a0 : Nat), .int .u32 (b0 : Nat), .int .u32 (c0 : Nat), .int .u32 (d0 : Nat), .int .u32 (e0 : Nat), .int .u32 (f0 : Nat), .int .u32 (g0 : Nat), .int .u32 (h0 : Nat)] 112)).alloc (.cells cs 115)).alloc (.cells Z8 112)).drewN nq)) := jq7 ((Fr.alloc (Fr.alloc (Fr.alloc (Fr.refl _ _) _) _) _).drewN nq)
 have HZs : Jq7 (w.heap.size + 1 + 1 < ((((w.alloc (.cells #[.int .u32 (a0 : Nat), .int .u32 (b0 : Nat), .int .u32 (c0 : Nat), .int .u32 (d0 : Nat), .int .u32 (e0 : Nat), .int .u32 (f0 : Nat), .int .u32 (g0 : Nat), .int .u32 (h0 : Nat)] 112)).alloc (.cells cs 115)).alloc (.cells Z8 112)).drewN nq).heap.size) := jq7 (Bk.lt HR.o)
 change Exit.then _ _ _ _ ((((w.alloc (.cells #[.int .u32 (a0 : Nat), .int .u32 (b0 : Nat), .int .u32 (c0 : Nat), .int .u32 (d0 : Nat), .int .u32 (e0 : Nat), .int .u32 (f0 : Nat), .int .u32 (g0 : Nat), .int .u32 (h0 : Nat)] 112)).alloc (.cells cs 115)).alloc (.cells Z8 112)).drewN nq)
 generalize (((w.alloc (.cells #[.int .u32 (a0 : Nat), .int .u32 (b0 : Nat), .int .u32 (c0 : Nat), .int .u32 (d0 : Nat), .int .u32 (e0 : Nat), .int .u32 (f0 : Nat), .int .u32 (g0 : Nat), .int .u32 (h0 : Nat)] 112)).alloc (.cells cs 115)).alloc (.cells Z8 112)).drewN nq = w0 at *
 go_wp2_with (first | (refine wpList_load_row rfl 115 _ rfl (w.heap.size + 1) rfl 115 cs (0, 0) _ HD.o Tryz.underlying115 rfl (by rw [HZ.o];exact HI.o) ?_) | (go_at_call 99;rw [← HC.o];(with_reducible refine (spread_calls b _ HB.o).mono ?_);rintro e w1 ⟨rfl, hf1⟩;have HF1 := jq7 hf1;clear hf1))
 have GH : Jq7 (Bk w1 w.heap.size #[.int .u32 (a0 : Nat), .int .u32 (b0 : Nat), .int .u32 (c0 : Nat), .int .u32 (d0 : Nat), .int .u32 (e0 : Nat), .int .u32 (f0 : Nat), .int .u32 (g0 : Nat), .int .u32 (h0 : Nat)] 112) := jq7 (HF1.o.keep HH.o (fun h => h))
 have GR : Jq7 (Bk w1 (w.heap.size + 1 + 1) Z8 112) := jq7 (HF1.o.keep HR.o (fun h => h))
 have GK : Jq7 (Bk w1 1 KC tk) := jq7 (HF1.o.keep HK0.o (fun h => h))
 have GF : Jq7 (Fr0 w w1) := jq7 (HF0.o.then0 HF1.o)
 have HWk : Jq7 (∀ k, k < 64 → ((sched b 64).map U).toArray[k]? = some (.int .u32 (at0 (sched b 64) k : Nat))) := jq7 (fun k hk => by
  simp only [at0, List.getD_eq_getElem?_getD]
  rw [List.getElem?_toArray, List.getElem?_map, List.getElem?_eq_getElem (show k < (sched b 64).length by simp;omega)]
  rfl)
 have HWz : Jq7 (((sched b 64).map U).toArray.size = 64) := jq7 (by simp)
 have HWl : Jq7 (∀ k, at0 (sched b 64) k < 4294967296) := jq7 (fun k => at0_lt k)
 have HSO : Jq7 (stepOf ⟨a0, b0, c0, d0, e0, f0, g0, h0⟩ b = (let s : S8 := ⟨a0, b0, c0, d0, e0, f0, g0, h0⟩;let r := rounds cubes (sched b 64) s 64;⟨(s.a + r.a) % 4294967296, (s.b + r.b) % 4294967296, (s.c + r.c) % 4294967296, (s.d + r.d) % 4294967296, (s.e + r.e) % 4294967296, (s.f + r.f) % 4294967296, (s.g + r.g) % 4294967296, (s.h + r.h) % 4294967296⟩)) := jq7 rfl
 generalize stepOf ⟨a0, b0, c0, d0, e0, f0, g0, h0⟩ b = out at *
 generalize ((sched b 64).map U).toArray = ws at *
 generalize sched b 64 = sl at *
 clear HF1 HH HD HR HK0 HF0 HZs
 go_loopw [5, 6, 7, 8, 9, 10, 11, 12, 37] (fun va vb vc vd ve vf vg vh i wr => ∃ (k : Nat) (r : S8), k ≤ 64 ∧ i = .int .i64 k ∧ r = rounds cubes sl ⟨a0, b0, c0, d0, e0, f0, g0, h0⟩ k ∧ va = .int .u32 (r.a : Nat) ∧ vb = .int .u32 (r.b : Nat) ∧ vc = .int .u32 (r.c : Nat) ∧ vd = .int .u32 (r.d : Nat) ∧ ve = .int .u32 (r.e : Nat) ∧ vf = .int .u32 (r.f : Nat) ∧ vg = .int .u32 (r.g : Nat) ∧ vh = .int .u32 (r.h : Nat) ∧ Bk wr w.heap.size #[.int .u32 (a0 : Nat), .int .u32 (b0 : Nat), .int .u32 (c0 : Nat), .int .u32 (d0 : Nat), .int .u32 (e0 : Nat), .int .u32 (f0 : Nat), .int .u32 (g0 : Nat), .int .u32 (h0 : Nat)] 112 ∧ Bk wr (w.heap.size + 1 + 1) Z8 112 ∧ Bk wr 1 KC tk ∧ Fr0 w wr) (fun _ _ _ _ _ _ _ _ i _ => 64 - (intOf i).toNat)
 case atStart => exact ⟨0, _, by omega, rfl, rfl, rfl, rfl, rfl, rfl, rfl, rfl, rfl, rfl, GH.o, GR.o, GK.o, GF.o⟩
 case round =>
  obtain ⟨k, r, hk, rfl, hr, rfl, rfl, rfl, rfl, rfl, rfl, rfl, rfl, hbh, hbr, hbk, hfr⟩ := hrel
  have hok : r.ok := hr ▸ rounds_ok HS.o k
  have HR := jq7 hr
  clear hr
  obtain ⟨a, b', c, d, e, f, g, h⟩ := r
  obtain ⟨l1, l2, l3, l4, l5, l6, l7, l8⟩ := hok
  have BH := jq7 hbh
  have BR := jq7 hbr
  have BK := jq7 hbk
  have BF := jq7 hfr
  clear hbh hbr hbk hfr GH GR GK GF
  simp only [] at l1 l2 l3 l4 l5 l6 l7 l8
  by_cases hlt : k < 64
  rotate_left
  ·have cz : decide ((k : Int) < 64) = false := decide_eq_false (by omega)
   obtain rfl : k = 64 := by omega
   have HO : Jq7 (out = ⟨(a0 + a) % 4294967296, (b0 + b') % 4294967296, (c0 + c) % 4294967296, (d0 + d) % 4294967296, (e0 + e) % 4294967296, (f0 + f) % 4294967296, (g0 + g) % 4294967296, (h0 + h) % 4294967296⟩) := jq7 (by rw [HSO.o];dsimp only;rw [← HR.o])
   have HOl : Jq7 (∀ i, i < 8 → at0 out.list i = (at0 [a0, b0, c0, d0, e0, f0, g0, h0] i + at0 [a, b', c, d, e, f, g, h] i) % 4294967296) := jq7 (fun i hi => by
    rw [HO.o]
    match i, hi with
    | 0, _ => rfl
    | 1, _ => rfl
    | 2, _ => rfl
    | 3, _ => rfl
    | 4, _ => rfl
    | 5, _ => rfl
    | 6, _ => rfl
    | 7, _ => rfl)
   have HH8 : Jq7 (∀ i, i < 8 → (#[.int .u32 (a0 : Nat), .int .u32 (b0 : Nat), .int .u32 (c0 : Nat), .int .u32 (d0 : Nat), .int .u32 (e0 : Nat), .int .u32 (f0 : Nat), .int .u32 (g0 : Nat), .int .u32 (h0 : Nat)] : Array Value)[i]? = some (.int .u32 (at0 [a0, b0, c0, d0, e0, f0, g0, h0] i : Nat))) := jq7 (fun i hi => by
    match i, hi with
    | 0, _ => rfl
    | 1, _ => rfl
    | 2, _ => rfl
    | 3, _ => rfl
    | 4, _ => rfl
    | 5, _ => rfl
    | 6, _ => rfl
    | 7, _ => rfl)
   have HR8 : Jq7 (∀ i, i < 8 → (#[.int .u32 (a : Nat), .int .u32 (b' : Nat), .int .u32 (c : Nat), .int .u32 (d : Nat), .int .u32 (e : Nat), .int .u32 (f : Nat), .int .u32 (g : Nat), .int .u32 (h : Nat)] : Array Value)[i]? = some (.int .u32 (at0 [a, b', c, d, e, f, g, h] i : Nat))) := jq7 (fun i hi => by
    match i, hi with
    | 0, _ => rfl
    | 1, _ => rfl
    | 2, _ => rfl
    | 3, _ => rfl
    | 4, _ => rfl
    | 5, _ => rfl
    | 6, _ => rfl
    | 7, _ => rfl)
   have HOL : Jq7 (out.list.length = 8) := jq7 rfl
   clear HO HSO HWk HWz HWl HS l1 l2 l3 l4 l5 l6 l7 l8 hk cz
   go_wp2
   go_loopw [93] (fun i wr => ∃ k : Nat, k ≤ 8 ∧ i = .int .i64 k ∧ Bk wr w.heap.size (lay #[.int .u32 (a0 : Nat), .int .u32 (b0 : Nat), .int .u32 (c0 : Nat), .int .u32 (d0 : Nat), .int .u32 (e0 : Nat), .int .u32 (f0 : Nat), .int .u32 (g0 : Nat), .int .u32 (h0 : Nat)] 0 ((out.list.map U).take k)) 112 ∧ Bk wr (w.heap.size + 1 + 1) Z8 112 ∧ Fr0 w wr) (fun i _ => 8 - (intOf i).toNat)
   case atStart => exact ⟨0, by omega, rfl, BH.o, BR.o, BF.o⟩
   case round =>
    obtain ⟨k, hk, rfl, hbh, hbr, hfr⟩ := hrel
    have LH := jq7 hbh
    have LR := jq7 hbr
    have LF := jq7 hfr
    clear hbh hbr hfr BH BR BF BK
    by_cases hlt : k < 8
    rotate_left
    ·have cz : decide ((k : Int) < 8) = false := decide_eq_false (by omega)
     obtain rfl : k = 8 := by omega
     have LX : Jq7 (Bk wr w.heap.size (out.list.map U).toArray 112) := jq7 (by
      have := LH.o
      rwa [List.take_of_length_le (by rw [List.length_map, HOL.o];exact Nat.le_refl _), lay_full _ _ (by rw [List.length_map, HOL.o];rfl)] at this)
     clear LH
     go_wp2_with (first | (refine wpList_load_row rfl 112 _ rfl w.heap.size rfl 112 _ (0, 0) _ LX.o Tryz.underlying112 rfl (by rw [info8a];simp [HOL.o]) ?_) | (refine wpList_store_row rfl 112 _ _ rfl (w.heap.size + 1 + 1) _ rfl rfl 112 Z8 LR.o (by rw [info8a];simp [HOL.o]) (by simp [HOL.o, Z8]) (by simp [U, Value.oneCell']) ?_))
     refine fin_c (w.heap.size + 1 + 1) 112 (out.list.map U).toArray (by rfl) (by rfl) (by rfl) Tryz.underlying112 (by rfl) (by rw [info8a];simp [HOL.o]) (ArrKit.Bk.row LR.o _) ?_
     rw [HRES.o]
     exact ⟨rfl, ArrKit.Fr.row LF.o _ _ (.inl (by omega))⟩
    ·have cz : decide ((k : Int) < 8) = true := decide_eq_true (by omega)
     have hidx := index_arr (P := Tryz.prog) wr Tryz.underlying112 (e := 111) (by kernel_rfl) (by kernel_rfl) hlt (HR8.o k hlt)
     have hcl : wr.cell? ⟨w.heap.size, k, none⟩ = some (.int .u32 (at0 [a0, b0, c0, d0, e0, f0, g0, h0] k : Nat)) := by
      rw [LH.o.cell, lay_get, if_neg (by simp;omega)]
      exact HH8.o k hlt
     have hfz := LH.o.free k
     have HV := jq7 (HOl.o k hlt)
     generalize at0 [a0, b0, c0, d0, e0, f0, g0, h0] k = p at *
     generalize at0 [a, b', c, d, e, f, g, h] k = q at *
     go_wp2
     have hv : (out.list.map U)[k]'(by rw [List.length_map, HOL.o];exact hlt) = .int .u32 (((p : Int) + q) % 4294967296) := by
      have h1 : out.list[k]'(by rw [HOL.o];exact hlt) = (p + q) % 4294967296 := by
       have := HV.o
       rwa [at0, List.getD_eq_getElem?_getD, List.getElem?_eq_getElem (by rw [HOL.o];exact hlt)] at this
      rw [List.getElem_map, h1, U]
      rfl
     refine ⟨⟨k + 1, by omega, by go_num, ?_, Bk.setOther LR.o _ _ (by simp;omega), LF.o.set _ _ (.inl (by simp))⟩, by simp [intOf];omega⟩
     rw [lay_take (by rw [List.length_map, HOL.o];exact hlt), hv, Nat.zero_add]
     exact LH.o.set _ _
  ·have cz : decide ((k : Int) < 64) = true := decide_eq_true (by omega)
   have hw := HWk.o k hlt
   have hcu : wr.cell? ⟨1, k, none⟩ = some (.int .u32 (at0 cubes k : Nat)) := (BK.o.cell k).trans (cubes_get k hlt)
   have hwl := HWl.o k
   have hkl := cubes_lt k
   have HN : Jq7 (rounds cubes sl ⟨a0, b0, c0, d0, e0, f0, g0, h0⟩ (k + 1) = rnd ⟨a, b', c, d, e, f, g, h⟩ (at0 cubes k) (at0 sl k)) := jq7 (by rw [rounds, ← HR.o])
   have x1 := xor32 f g l6 l7
   have x2 := and32 e (f ^^^ g) l5 (xor_lt l6 l7)
   have x3 := xor32 g (e &&& (f ^^^ g)) l7 (and_lt l5)
   have HCH : Jq7 (g ^^^ (e &&& (f ^^^ g)) = ch e f g) := jq7 rfl
   rw [HCH.o] at x3
   have x4 := and32 a b' l1 l2
   have x5 := or32 a b' l1 l2
   have x6 := and32 c (a ||| b') l3 (or_lt l1 l2)
   have x7 := or32 (a &&& b') (c &&& (a ||| b')) (and_lt l1) (and_lt l3)
   have HMJ : Jq7 ((a &&& b') ||| (c &&& (a ||| b')) = maj a b' c) := jq7 rfl
   rw [HMJ.o] at x7
   have hidx := index_arr (P := Tryz.prog) wr Tryz.underlying130 (e := 111) (by kernel_rfl) (by kernel_rfl) hlt hw
   clear hw
   generalize at0 cubes k = kt at *
   generalize at0 sl k = xt at *
   go_wp2_with fail
   go_quiet (first | (go_at_call 100;refine Calls.quiet_of_same ((mixed_6 e _ l5).mono fun _ _ h => ⟨h.1, h.2.symm⟩)))
   have NH : Jq7 (Bk (wr.drewN nq) w.heap.size #[.int .u32 (a0 : Nat), .int .u32 (b0 : Nat), .int .u32 (c0 : Nat), .int .u32 (d0 : Nat), .int .u32 (e0 : Nat), .int .u32 (f0 : Nat), .int .u32 (g0 : Nat), .int .u32 (h0 : Nat)] 112) := jq7 BH.o
   have NR : Jq7 (Bk (wr.drewN nq) (w.heap.size + 1 + 1) Z8 112) := jq7 BR.o
   have NK : Jq7 (Bk (wr.drewN nq) 1 KC tk) := jq7 BK.o
   have NF : Jq7 (Fr0 w (wr.drewN nq)) := jq7 (BF.o.drewN nq)
   change Exit.then _ _ _ _ (wr.drewN nq)
   clear hcu hidx
   generalize wr.drewN nq = w2 at *
   go_wp2_with (go_at_call 100;(with_reducible refine (mixed_2 a _ l1).mono ?_);rintro e w3 ⟨rfl, rfl⟩)
   refine ⟨⟨k + 1, rnd ⟨a, b', c, d, e, f, g, h⟩ kt xt, by omega, by go_num, HN.o.symm, u32_eq ?_, rfl, rfl, rfl, u32_eq ?_, rfl, rfl, rfl, NH.o, NR.o, NK.o, NF.o⟩, by simp [intOf];omega⟩
   ·simp only [rnd, tp, tq, big0, big1]
    omega
   ·simp only [rnd, tp, tq, big0, big1]
    omega

end Go.Proofs.YtmkmpfnadcmcoaaGreatDoor.ShaStep
namespace Go.Proofs.YtmkmpfnadcmcoaaGreatDoor.ShaPlain
open Go Go.RowKit K ShaStep HeldKit
theorem maj_eq (a b c : Nat) : (a &&& b) ^^^ (a &&& c) ^^^ (b &&& c) = maj a b c := Nat.eq_of_testBit_eq fun i => by
 simp only [maj, Nat.testBit_xor, Nat.testBit_and, Nat.testBit_or]
 cases a.testBit i <;> cases b.testBit i <;> cases c.testBit i <;> rfl
theorem not_bit {e : Nat} (he : e < 4294967296) (i : Nat) : (4294967295 - e).testBit i = (decide (i < 32) && !e.testBit i) := by
 have := Nat.testBit_two_pow_sub_succ (x := e) (n := 32) he i
 rw [← this]
 congr 1
 omega
theorem ch_eq {e f g : Nat} (he : e < 4294967296) (hg : g < 4294967296) : (e &&& f) ^^^ ((4294967295 - e) &&& g) = ch e f g := Nat.eq_of_testBit_eq fun i => by
 simp only [ch, Nat.testBit_xor, Nat.testBit_and, not_bit he]
 by_cases hi : i < 32
 ·simp only [hi, decide_true, Bool.true_and]
  cases e.testBit i <;> cases f.testBit i <;> cases g.testBit i <;> rfl
 ·have h1 : g.testBit i = false := Nat.testBit_lt_two_pow (Nat.lt_of_lt_of_le hg (Nat.pow_le_pow_right (n := 2) (by decide) (show 32 ≤ i by omega)))
  have h2 : e.testBit i = false := Nat.testBit_lt_two_pow (Nat.lt_of_lt_of_le he (Nat.pow_le_pow_right (n := 2) (by decide) (show 32 ≤ i by omega)))
  simp [hi, h1, h2]

end Go.Proofs.YtmkmpfnadcmcoaaGreatDoor.ShaPlain
