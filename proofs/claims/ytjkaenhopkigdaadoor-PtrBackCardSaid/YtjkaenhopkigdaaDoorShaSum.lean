/- Sums: the walks of sha.Sum and lazaretref01.Sum. -/
import Derived.Test.YtjkaenhopkigdaaDoorShaRef
import Derived.Test.YtjkaenhopkigdaaDoorShaPad
set_option linter.unusedVariables false
set_option linter.unusedSimpArgs false
namespace Go.Proofs.YtjkaenhopkigdaaDoor.ShaSum
open Go Go.RowKit Go.Proofs.YtjkaenhopkigdaaDoor.K Go.Proofs.YtjkaenhopkigdaaDoor.ShaRot Go.Proofs.YtjkaenhopkigdaaDoor.ArrKit Go.Proofs.YtjkaenhopkigdaaDoor.ShaSpread Go.Proofs.YtjkaenhopkigdaaDoor.ShaStep Go.Proofs.YtjkaenhopkigdaaDoor.ShaRef Go.Proofs.YtjkaenhopkigdaaDoor.RefCopy Go.Proofs.YtjkaenhopkigdaaDoor.ShaPad

theorem wpStill_load_row {P : Program} {ops : Array Oper} {rest : List Oper} {o : Oper} {a : Act} {w : World} {Q : Act → Prop} (hgd : o.guard = none) (ty : TypeId) (x : Operand) (ho : o.op = .load ty x)
    (g : Nat) (hx : a.eval x = .pointer (some ⟨g, 0, none⟩)) (t : TypeId) (cs : Array Value) (fr : Nat × Nat) (d : TypeDesc) (hg : w.heap[g]? = some (.cells cs t fr))
    (hu : P.underlying ty = some d) (hd : (match d with | .struct _ | .array _ _ => true | _ => false) = true) (hi : (P.info? ty).map (·.size) = some cs.size)
    (h : wpStill P ops w Q rest (a.put o.dst (.agg cs))) : wpStill P ops w Q (o :: rest) a := by
  have hw : Region.wanted o (yielded ops a.tmps) = true := by simp [Region.wanted, hgd]
  rw [wpStill, if_pos hw]
  unfold Oper.still execOp
  simp only [ho, hx, Instr.loadAt, Instr.sureAddr, Sem.run_bind, Sem.run_pure, Result.andThen_ok, run_loadVar_row w g t ty cs fr d hg hu hd hi, Oper.stillUpon]
  exact ⟨trivial, h⟩
theorem wpStill_load_mid {P : Program} {ops : Array Oper} {rest : List Oper} {op : Oper} {a : Act} {w : World} {Q : Act → Prop} (hgd : op.guard = none) (ty : TypeId) (x : Operand) (ho : op.op = .load ty x)
    (b o : Nat) (hx : a.eval x = .pointer (some ⟨b, o, none⟩)) (cs : List Value) (d : TypeDesc) (hc : w.rangeAt b o cs)
    (hu : P.underlying ty = some d) (hd : d.isRow = true) (hi : (P.info? ty).map (·.size) = some cs.length)
    (h : wpStill P ops w Q rest (a.put op.dst (.agg cs.toArray))) : wpStill P ops w Q (op :: rest) a := by
  have hw : Region.wanted op (yielded ops a.tmps) = true := by simp [Region.wanted, hgd]
  rw [wpStill, if_pos hw]
  unfold Oper.still execOp
  simp only [ho, hx, Instr.loadAt, Instr.sureAddr, Sem.run_bind, Sem.run_pure, Result.andThen_ok, run_loadVar_mid w b o ty cs d hc hu hd hi, Oper.stillUpon]
  exact ⟨trivial, h⟩
theorem bval {l : List UInt8} {i n : Nat} {z : Int} (h : l[i]? = some (UInt8.ofNat n)) (hi : i < (l.map B).length) (hz : ((n % 256 : Nat) : Int) = z) : (l.map B)[i] = .int .u8 z := by
  obtain ⟨h1, h2⟩ := List.getElem?_eq_some_iff.1 h
  rw [List.getElem_map, h2, B_ofNat, hz]
theorem lay_next {vs : List Value} (j : Nat) (hj : j < vs.length) (v : Value) (hv : vs[j] = v) (cs : Array Value) : lay cs 0 (vs.take (j + 1)) = (lay cs 0 (vs.take j)).setIfInBounds j v := by
  rw [lay_take hj, hv, Nat.zero_add]
theorem S8.at_lt {s : S8} (h : s.ok) (k : Nat) : at0 s.list k < 4294967296 := by
  obtain ⟨h1, h2, h3, h4, h5, h6, h7, h8⟩ := h
  match k with
  | 0 => exact h1
  | 1 => exact h2
  | 2 => exact h3
  | 3 => exact h4
  | 4 => exact h5
  | 5 => exact h6
  | 6 => exact h7
  | 7 => exact h8
  | _ + 8 => simp [at0, S8.list]
theorem info32a : (Tryd.prog.info? 24).map (·.size) = some 32 := by kernel_rfl
def Z32 : Array Value := #[.int .u8 0, .int .u8 0, .int .u8 0, .int .u8 0, .int .u8 0, .int .u8 0, .int .u8 0, .int .u8 0, .int .u8 0, .int .u8 0, .int .u8 0, .int .u8 0, .int .u8 0, .int .u8 0, .int .u8 0, .int .u8 0, .int .u8 0, .int .u8 0, .int .u8 0, .int .u8 0, .int .u8 0, .int .u8 0, .int .u8 0, .int .u8 0, .int .u8 0, .int .u8 0, .int .u8 0, .int .u8 0, .int .u8 0, .int .u8 0, .int .u8 0, .int .u8 0]
def blockAt (p : List UInt8) (i : Nat) : List UInt8 := (p.drop (64 * i)).take 64
def run (p : List UInt8) : Nat → S8
  | 0 => begins
  | i + 1 => stepOf (run p i) (blockAt p i)
theorem begins_ok : begins.ok := by refine ⟨?_, ?_, ?_, ?_, ?_, ?_, ?_, ?_⟩ <;> decide
theorem run_ok (p : List UInt8) (i : Nat) : (run p i).ok := by
  cases i with
  | zero => exact begins_ok
  | succ i => exact stepOf_ok _ _
def sumOf (l : List UInt8) : List UInt8 := (List.range 32).map fun j => UInt8.ofNat (at0 (run (padOf l) ((padOf l).length / 64)).list (j / 4) / 2 ^ (24 - 8 * (j % 4)))
theorem sumOf_length (l : List UInt8) : (sumOf l).length = 32 := by simp [sumOf]
set_option maxHeartbeats 2000000 in
set_option maxRecDepth 100000 in
theorem sum_calls (a : Option Addr) (n c : Nat) (l : List UInt8) (w : World) (hl : l.length = n) (hrd : Rd w a l) (hn : n ≤ 140737488351232) {tk tb : TypeId} (hK : Bk w 1 KC tk) (hB : Bk w 0 HB8 tb) :
    Calls Tryd.prog 31 #[.slice a n c] w fun e w' => e = .returned (.agg ((sumOf l).map B).toArray) ∧ Fr0 w w' := by
  have HL := Lib.hid hl
  have HR := Lib.hid hrd
  have HK := Lib.hid hK
  have HB := Lib.hid hB
  clear hl hrd hK hB
  have hsz : ((w.alloc (.cells Z32 24)).alloc (.cells Z8 54)).heap.size = w.heap.size + 1 + 1 := by simp
  have hb0 : Bk (w.alloc (.cells Z32 24)) 0 HB8 tb := Bk.alloc HB.out _
  have HB1 := Lib.hid hb0
  have HN2 : Hid (Bk ((w.alloc (.cells Z32 24)).alloc (.cells Z8 54)) (w.heap.size + 1) Z8 54) := Lib.hid (by
    have := Bk.new (w.alloc (.cells Z32 24)) (.cells Z8 54)
    rwa [show (w.alloc (.cells Z32 24)).heap.size = w.heap.size + 1 by simp] at this)
  have hlt := Bk.lt HB.out
  have GH : Hid (Bk (((w.alloc (.cells Z32 24)).alloc (.cells Z8 54)).setRow (w.heap.size + 1) HB8) (w.heap.size + 1) HB8 54) := Lib.hid (ArrKit.Bk.row HN2.out _)
  have GR : Hid (Bk (((w.alloc (.cells Z32 24)).alloc (.cells Z8 54)).setRow (w.heap.size + 1) HB8) w.heap.size Z32 24) := Lib.hid (ArrKit.Bk.rowOther (Bk.alloc (Bk.new _ _) _) _ (by omega))
  have GK : Hid (Bk (((w.alloc (.cells Z32 24)).alloc (.cells Z8 54)).setRow (w.heap.size + 1) HB8) 1 KC tk) := Lib.hid (ArrKit.Bk.rowOther (Bk.alloc (Bk.alloc HK.out _) _) _ (by omega))
  have GF : Hid (Fr0 w (((w.alloc (.cells Z32 24)).alloc (.cells Z8 54)).setRow (w.heap.size + 1) HB8)) := Lib.hid (ArrKit.Fr.row (Fr.alloc (Fr.alloc (Fr.refl _ _) _) _) _ _ (.inl (by omega)))
  clear hb0 hsz
  generalize hw2 : ((w.alloc (.cells Z32 24)).alloc (.cells Z8 54)).setRow (w.heap.size + 1) HB8 = w2 at *
  have GL := Lib.hid (HR.out.later GF.out (fun _ _ h => h))
  go_enter Tryd.func31, Tryd.ntmps31
  go_wp2_with (first | (refine wpList_load_row rfl 54 _ rfl 0 rfl tb HB8 (0, 0) _ HB1.out Tryd.underlying54 rfl (by kernel_rfl) ?_) | (refine wpList_store_row rfl 54 _ _ rfl (w.heap.size + 1) HB8 rfl rfl 54 Z8 HN2.out (by kernel_rfl) rfl (by kernel_rfl) ?_; change wpList _ _ _ _ _ (((w.alloc (.cells Z32 24)).alloc (.cells Z8 54)).setRow (w.heap.size + 1) HB8); rw [hw2]) | (go_at_call 43; (with_reducible refine (pad_calls a n c l _ HL.out GL.out hn).mono ?_); rintro e w3 ⟨g, cap, cur, rfl, hge, hown, hfr⟩; have HO := Lib.hid hown; have HF := Lib.hid hfr; have HGE := Lib.hid hge; clear hown hfr hge))
  have HPO := HO.out
  generalize hp : padOf l = p at *
  generalize hT : p.length = T at *
  have HP := Lib.hid hp
  have HT := Lib.hid hT
  have h64 : T % 64 = 0 := by
    rw [← hT, ← hp, padOf_length, zs]; omega
  have hTm : T ≤ 140737488351400 := by
    have := HL.out
    rw [← hT, ← hp, padOf_length, zs]; omega
  have HTc : Hid (T ≤ cap ∧ cap ≤ 9223372036854775807) := Lib.hid ⟨HO.out.room, HO.out.cap⟩
  have KH : Hid (Bk w3 (w.heap.size + 1) HB8 54) := Lib.hid (HF.out.keep GH.out (fun h => h))
  have KR : Hid (Bk w3 w.heap.size Z32 24) := Lib.hid (HF.out.keep GR.out (fun h => h))
  have KK : Hid (Bk w3 1 KC tk) := Lib.hid (HF.out.keep GK.out (fun h => h))
  have KF : Hid (Fr0 w w3) := Lib.hid (GF.out.then0 HF.out)
  have hszs : w2.heap.size = w.heap.size + 1 + 1 := by rw [← hw2]; simp
  have HG2 : Hid (w.heap.size + 1 < g) := Lib.hid (by have := HGE.out; omega)
  clear HPO hszs hw2 hp hT HN2 HB1 GL HB HK HGE HF GF GK GR GH
  go_loopw [4] (fun v wr => ∃ i A, 64 * i ≤ T ∧ v = .slice A (T - 64 * i) (cap - 64 * i) ∧ (64 * i < T → A = some ⟨g, 64 * i, none⟩) ∧ Bk wr (w.heap.size + 1) ((run p i).list.map U).toArray 54 ∧ Bk wr w.heap.size Z32 24 ∧ Bk wr 1 KC tk ∧ Own wr g T cap cur p ∧ Fr0 w wr) (fun v _ => slen v)
  case atStart => exact ⟨0, _, by omega, rfl, fun _ => rfl, KH.out, KR.out, KK.out, HO.out, KF.out⟩
  case round =>
    obtain ⟨i, A, hi, rfl, hA, hbh, hbr, hbk, hown, hfr⟩ := hrel
    have LH := Lib.hid hbh
    have LR := Lib.hid hbr
    have LK := Lib.hid hbk
    have LO := Lib.hid hown
    have LF := Lib.hid hfr
    have HI := Lib.hid hi
    clear hbh hbr hbk hown hfr KH KR KK KF HO
    have HTC := HTc.out
    by_cases hlt : 64 * i < T
    rotate_left
    · have cz : decide (0 < (T - 64 * i : Nat)) = false := decide_eq_false (by omega)
      obtain ⟨m, hm⟩ : ∃ m, T - 64 * i = m := ⟨_, rfl⟩
      rw [hm] at cz
      rw [hm]
      obtain ⟨cc, hcc⟩ : ∃ c, cap - 64 * i = c := ⟨_, rfl⟩
      rw [hcc]
      have e64 : T / 64 = i := by omega
      have HSO : Hid (sumOf l = (List.range 32).map fun j => UInt8.ofNat (at0 (run p i).list (j / 4) / 2 ^ (24 - 8 * (j % 4)))) := Lib.hid (by rw [sumOf, HP.out, HT.out, e64])
      clear hm hcc hA hi HTC e64
      have LRO := run_ok p i
      generalize run p i = r at *
      have HR8 : Hid (∀ k, k < 8 → (r.list.map U).toArray[k]? = some (.int .u32 (at0 r.list k : Nat))) := Lib.hid (fun k hk => list_cell r k hk)
      have HRS : Hid ((r.list.map U).toArray.size = 8) := Lib.hid (by simp [S8.list])
      have HRL : Hid (∀ k, at0 r.list k < 4294967296) := Lib.hid (fun k => S8.at_lt LRO k)
      clear LRO
      generalize (r.list.map U).toArray = hc at *
      generalize r.list = rl at *
      have LH1 : Hid (Bk (wr.alloc (.cells Z32 24)) (w.heap.size + 1) hc 54) := Lib.hid (Bk.alloc LH.out _)
      go_wp2_with (refine wpList_load_row rfl 54 _ rfl (w.heap.size + 1) rfl 54 hc (0, 0) _ LH1.out Tryd.underlying54 rfl (by rw [HRS.out]; exact info8a) ?_)
      change Code.wp _ _ _ _ (wr.alloc (.cells Z32 24))
      have BS : Hid (Bk (wr.alloc (.cells Z32 24)) wr.heap.size Z32 24) := Lib.hid (Bk.new wr _)
      have BR : Hid (Bk (wr.alloc (.cells Z32 24)) w.heap.size Z32 24) := Lib.hid (Bk.alloc LR.out _)
      have BF : Hid (Fr0 w (wr.alloc (.cells Z32 24))) := Lib.hid (Fr.alloc LF.out _)
      have BL : Hid (w.heap.size < wr.heap.size) := Lib.hid (Bk.lt LR.out)
      clear LH LH1 LR LK LO LF
      generalize hSS : wr.heap.size = SS at *
      clear hSS
      generalize wr.alloc (.cells Z32 24) = w6 at *
      go_loopw [22] (fun i wq => ∃ k : Nat, k ≤ 8 ∧ i = .int .i64 k ∧ Bk wq SS (lay Z32 0 (((sumOf l).map B).take (4 * k))) 24 ∧ Bk wq w.heap.size Z32 24 ∧ Fr0 w wq) (fun i _ => 8 - (intOf i).toNat)
      case atStart => exact ⟨0, by omega, rfl, BS.out, BR.out, BF.out⟩
      case round =>
        obtain ⟨k, hk, rfl, hbs, hbr, hfr⟩ := hrel
        have CS := Lib.hid hbs
        have CR := Lib.hid hbr
        have CF := Lib.hid hfr
        clear hbs hbr hfr BS BR BF
        by_cases hlt8 : k < 8
        rotate_left
        · have cz2 : decide ((k : Int) < 8) = false := decide_eq_false (by omega)
          have hlen : ((sumOf l).map B).length = 32 := by simp [sumOf_length]
          have LX : Hid (Bk wr SS ((sumOf l).map B).toArray 24) := Lib.hid (by
            have e : k = 8 := by omega
            subst e
            have := CS.out
            rwa [List.take_of_length_le (by rw [hlen]; exact Nat.le_refl _), lay_full _ _ (by rw [hlen]; rfl)] at this)
          have HLN := Lib.hid hlen
          have HI1 : Hid ((Tryd.prog.info? 24).map (·.size) = some (((sumOf l).map B).toArray.size)) := Lib.hid (by rw [info32a, List.size_toArray, hlen])
          have HI2 : Hid (Z32.size = ((sumOf l).map B).toArray.size) := Lib.hid (by rw [show (((sumOf l).map B).toArray).size = 32 by simp [sumOf_length]]; rfl)
          have HI3 : Hid (((sumOf l).map B).toArray.all (·.oneCell') = true) := Lib.hid (by simp [B, Value.oneCell'])
          clear CS hlen
          go_wp2_with (first | (refine wpList_load_row rfl 24 _ rfl SS rfl 24 ((sumOf l).map B).toArray (0, 0) _ LX.out Tryd.underlying24 rfl HI1.out ?_) | (refine wpList_store_row rfl 24 _ _ rfl w.heap.size ((sumOf l).map B).toArray rfl rfl 24 Z32 CR.out HI1.out HI2.out HI3.out ?_))
          refine fin_c w.heap.size 24 ((sumOf l).map B).toArray (by rfl) (by rfl) (by rfl) Tryd.underlying24 (by rfl) (by rw [info32a, List.size_toArray, HLN.out]) (ArrKit.Bk.row CR.out _) ?_
          exact ⟨rfl, ArrKit.Fr.row CF.out _ _ (.inl (by omega))⟩
        · have cz2 : decide ((k : Int) < 8) = true := decide_eq_true (by omega)
          have hidx := index_arr (P := Tryd.prog) wr Tryd.underlying54 (e := 53) (by kernel_rfl) (by kernel_rfl) hlt8 (HR8.out k hlt8)
          have hxl := HRL.out k
          have HV : Hid (∀ j, j < 4 → (sumOf l)[4 * k + j]? = some (UInt8.ofNat (at0 rl k / 2 ^ (24 - 8 * j)))) := Lib.hid (fun j hj => by
            rw [HSO.out, List.getElem?_map, List.getElem?_range (by omega), Option.map_some, show (4 * k + j) / 4 = k by omega, show (4 * k + j) % 4 = j by omega])
          generalize at0 rl k = x at *
          have hcell : ∀ j, j < 4 → ∃ v, wr.cell? ⟨SS, 4 * k + j, none⟩ = some v := fun j hj => ⟨_, (CS.out.cell (4 * k + j)).trans (Array.getElem?_eq_getElem (by rw [lay_size]; show 4 * k + j < 32; omega))⟩
          obtain ⟨o0, q0⟩ := hcell 0 (by omega)
          obtain ⟨o1, q1⟩ := hcell 1 (by omega)
          obtain ⟨o2, q2⟩ := hcell 2 (by omega)
          obtain ⟨o3, q3⟩ := hcell 3 (by omega)
          rw [Nat.add_zero] at q0
          have z0 := CS.out.free (4 * k)
          have z1 := CS.out.free (4 * k + 1)
          have z2 := CS.out.free (4 * k + 2)
          have z3 := CS.out.free (4 * k + 3)
          have i0 : 4 * k < 32 := by omega
          have i1 : 4 * k + 1 < 32 := by omega
          have i2 : 4 * k + 2 < 32 := by omega
          have i3 : 4 * k + 3 < 32 := by omega
          clear hcell
          go_wp2_with fail
          have hlen : ((sumOf l).map B).length = 32 := by simp [sumOf_length]
          have hxi : (x : Int) < 4294967296 := by omega
          refine ⟨⟨k + 1, by omega, by go_num, ?_, Bk.setOther (Bk.setOther (Bk.setOther (Bk.setOther CR.out _ _ (by have := BL.out; simp; omega)) _ _ (by have := BL.out; simp; omega)) _ _ (by have := BL.out; simp; omega)) _ _ (by have := BL.out; simp; omega), (((CF.out.set _ _ (.inl (by have := BL.out; simp; omega))).set _ _ (.inl (by have := BL.out; simp; omega))).set _ _ (.inl (by have := BL.out; simp; omega))).set _ _ (.inl (by have := BL.out; simp; omega))⟩, by simp [intOf]; omega⟩
          rw [show 4 * (k + 1) = 4 * k + 3 + 1 by omega, lay_next (4 * k + 3) (by omega) (.int .u8 ((x : Int) % 256)) (bval (HV.out 3 (by omega)) _ (by simp)),
            lay_next (4 * k + 2) (by omega) (.int .u8 ((x : Int) / 256 % 256)) (bval (HV.out 2 (by omega)) _ (by simp)),
            lay_next (4 * k + 1) (by omega) (.int .u8 ((x : Int) / 65536 % 256)) (bval (HV.out 1 (by omega)) _ (by simp)),
            lay_next (4 * k) (by omega) (.int .u8 ((x : Int) / 16777216)) (bval (HV.out 0 (by omega)) _ (by simp; omega))]
          exact Bk.set (Bk.set (Bk.set (Bk.set CS.out _ _) _ _) _ _) _ _
    · obtain rfl := hA hlt
      obtain ⟨m, hm⟩ : ∃ m, T - 64 * i = m := ⟨_, rfl⟩
      obtain ⟨cc, hcc⟩ : ∃ c, cap - 64 * i = c := ⟨_, rfl⟩
      have cz : decide (0 < m) = true := decide_eq_true (by omega)
      have cy : decide (m < 64) = false := decide_eq_false (by omega)
      have hm64 : 64 ≤ m := by omega
      have hc64 : m ≤ cc := by omega
      rw [hm, hcc]
      have HM := Lib.hid hm
      have HCC := Lib.hid hcc
      have HBL : Hid ((blockAt p i).length = 64) := Lib.hid (by have := HT.out; rw [blockAt, List.length_take, List.length_drop]; omega)
      have HRG : Hid (wr.drew.rangeAt g (64 * i) ((blockAt p i).map B)) := Lib.hid (fun j v hj => by
        rw [List.getElem?_map, Option.map_eq_some_iff] at hj
        obtain ⟨x, hx, rfl⟩ := hj
        obtain ⟨hj, hx⟩ := List.getElem?_eq_some_iff.1 hx
        have hj' := hj
        rw [HBL.out] at hj'
        have h2 := LO.out.here (64 * i + j) (by rw [LO.out.len]; omega)
        refine (LO.out.blk.cell (64 * i + j)).trans (h2.trans ?_)
        congr 2
        rw [← hx]
        simp [blockAt])
      clear hm hcc hA HTC hi
      have hat : ∀ W : World, (Instr.arrayAt 56 (.slice (some ⟨g, 64 * i, none⟩) m cc)).run Tryd.prog W = .ok (.pointer (some ⟨g, 64 * i, none⟩)) W := fun W => by
        simp [Instr.arrayAt, run_underlying Tryd.underlying56, Nat.not_lt.2 hm64]
      go_wp2_with fail
      refine wp_region_still_tail 4 (by kernel_rfl) (by kernel_rfl) ?_
      simp only [List.take_succ_cons, List.take_zero, List.drop_succ_cons, List.drop_zero]
      refine wpStill_load_row rfl 54 _ rfl (w.heap.size + 1) rfl 54 ((run p i).list.map U).toArray (0, 0) _ LH.out Tryd.underlying54 rfl (by kernel_rfl) ?_
      still_step
      still_step
      refine wpStill_load_mid rfl 56 _ rfl g (64 * i) rfl ((blockAt p i).map B) _ HRG.out Tryd.underlying56 rfl (by rw [List.length_map, HBL.out]; kernel_rfl) ?_
      refine wpStill_nil ?_
      have MK : Hid (Bk wr.drew 1 KC tk) := Lib.hid LK.out
      have MH : Hid (Bk wr.drew (w.heap.size + 1) _ 54) := Lib.hid LH.out
      have MR : Hid (Bk wr.drew w.heap.size Z32 24) := Lib.hid LR.out
      have MO : Hid (Own wr.drew g T cap cur p) := Lib.hid LO.out.drew
      have MF : Hid (Fr0 w wr.drew) := Lib.hid LF.out.drew
      clear LK LH LR LO LF HRG hat
      change wpList _ _ _ _ _ wr.drew
      generalize wr.drew = w4 at *
      have x1 : (64 : Int) ≤ m := by omega
      have x2 : (m : Int) ≤ cc := by omega
      by_cases hx : 64 < cc
      all_goals
        go_wp2_with (first | (go_at_call 44; (with_reducible refine (step_calls (run p i) (run_ok p i) (blockAt p i) _ HBL.out MK.out).mono ?_); rintro e w5 ⟨rfl, hf5⟩; have HF5 := Lib.hid hf5; have HH5 := Lib.hid (hf5.keep MH.out (fun h => h)); clear hf5) | (refine wpList_store_row rfl 54 _ _ rfl (w.heap.size + 1) ((stepOf (run p i) (blockAt p i)).list.map U).toArray rfl rfl 54 _ HH5.out (by simp only [List.size_toArray, List.length_map]; exact info8a) (by simp [S8.list]) (by simp [U, S8.list, Value.oneCell']) ?_))
      case roundEnd =>
        have hm := HM.out
        have hcc := HCC.out
        have hG := HG2.out
        refine ⟨⟨i + 1, some ⟨g, 64 * i + 64, none⟩, by omega, by rw [show T - 64 * (i + 1) = m - 64 by omega, show cap - 64 * (i + 1) = cc - 64 by omega], fun h => rfl, ArrKit.Bk.row HH5.out _, ArrKit.Bk.rowOther (HF5.out.keep MR.out (fun h => h)) _ (by omega), ArrKit.Bk.rowOther (HF5.out.keep MK.out (fun h => h)) _ (by omega), ⟨ArrKit.Bk.rowOther (HF5.out.keep MO.out.blk (fun h => h)) _ (by omega), MO.out.len, MO.out.room, MO.out.size, MO.out.cap, MO.out.here⟩, ArrKit.Fr.row (MF.out.then0 HF5.out) _ _ (.inl (by omega))⟩, by simp [slen]; omega⟩
      case roundEnd =>
        have hm := HM.out
        have hcc := HCC.out
        have hG := HG2.out
        refine ⟨⟨i + 1, some ⟨g, 64 * i, none⟩, by omega, by rw [show T - 64 * (i + 1) = m - 64 by omega, show cap - 64 * (i + 1) = cc - 64 by omega], fun h => by omega, ArrKit.Bk.row HH5.out _, ArrKit.Bk.rowOther (HF5.out.keep MR.out (fun h => h)) _ (by omega), ArrKit.Bk.rowOther (HF5.out.keep MK.out (fun h => h)) _ (by omega), ⟨ArrKit.Bk.rowOther (HF5.out.keep MO.out.blk (fun h => h)) _ (by omega), MO.out.len, MO.out.room, MO.out.size, MO.out.cap, MO.out.here⟩, ArrKit.Fr.row (MF.out.then0 HF5.out) _ _ (.inl (by omega))⟩, by simp [slen]; omega⟩

end Go.Proofs.YtjkaenhopkigdaaDoor.ShaSum
