/- Where a sector's pair stands, which sector stands for another one: the walks of place and At of both. -/
import Derived.Test.YtlleandelcjhjaaDoorRmRPut
set_option maxRecDepth 100000
set_option linter.unusedVariables false
set_option linter.unusedSimpArgs false
namespace Go.Proofs.YtlleandelcjhjaaDoor.RmAsk
open Go Go.RowKit Go.Proofs.YtlleandelcjhjaaDoor.K Go.Proofs.YtlleandelcjhjaaDoor.EqKit Go.Proofs.YtlleandelcjhjaaDoor.ArrKit Go.Proofs.YtlleandelcjhjaaDoor.HeldKit Go.Proofs.YtlleandelcjhjaaDoor.GKit Go.Proofs.YtlleandelcjhjaaDoor.GRow Go.Proofs.YtlleandelcjhjaaDoor.DiskKit Go.Proofs.YtlleandelcjhjaaDoor.RmKit Go.Proofs.YtlleandelcjhjaaDoor.MapKit Go.Proofs.YtlleandelcjhjaaDoor.RmRight Go.Proofs.YtlleandelcjhjaaDoor.RmRRight Go.Proofs.YtlleandelcjhjaaDoor.RmTab

def idxI (f : Int × Int → Bool) (l : List (Int × Int)) : Int := if l.findIdx f < l.length then (l.findIdx f : Int) else -1
theorem idxI_at {f : Int × Int → Bool} {l : List (Int × Int)} {k : Nat} (hk : k < l.length) (h : f l[k] = true) (hn : ∀ q (hq : q < k), f (l[q]'(by omega)) = false) : idxI f l = k := by
  have e : l.findIdx f = k := by
    rw [List.findIdx_eq hk]
    exact ⟨h, fun q hq => by simpa using hn q hq⟩
  unfold idxI
  rw [e, if_pos hk]
theorem idxI_no {f : Int × Int → Bool} {l : List (Int × Int)} (hn : ∀ q (hq : q < l.length), f l[q] = false) : idxI f l = -1 := by
  have e : l.findIdx f = l.length := by
    rw [List.findIdx_eq_length]
    intro x hx
    obtain ⟨q, hq, rfl⟩ := List.mem_iff_getElem.1 hx
    exact hn q hq
  unfold idxI
  rw [e, if_neg (Nat.lt_irrefl _)]
theorem idxI_cases (f : Int × Int → Bool) (l : List (Int × Int)) : (idxI f l = -1 ∧ ∀ x ∈ l, f x = false) ∨ ∃ k : Nat, ∃ hk : k < l.length, idxI f l = k ∧ f l[k] = true ∧ ∀ q (hq : q < k), f (l[q]'(by omega)) = false := by
  by_cases h : l.findIdx f < l.length
  · refine .inr ⟨l.findIdx f, h, by unfold idxI; rw [if_pos h], List.findIdx_getElem, fun q hq => ?_⟩
    have := List.not_of_lt_findIdx hq
    simpa using this
  · refine .inl ⟨by unfold idxI; rw [if_neg h], fun x hx => ?_⟩
    have e : l.findIdx f = l.length := Nat.le_antisymm List.findIdx_le_length (by omega)
    have := (List.findIdx_eq_length.1 e) x hx
    simpa using this

set_option maxHeartbeats 2000000 in
set_option maxRecDepth 100000 in
theorem pclo_calls (p : Int × Int) (bx : Nat) (n : Int) (w : World) (hb : Bk w bx #[.int .i64 n] 3) : Calls Tryd.prog 69 #[.agg (PR p).toArray, .pointer (some ⟨bx, 0, none⟩)] w fun e w' => e = .returned (.bool (p.1 == n)) ∧ Fr0 w w' := by
  have hb2 : Bk (w.alloc (.cells (PR p).toArray 69)) bx #[.int .i64 n] 3 := Bk.alloc hb _
  have c0 : (w.alloc (.cells (PR p).toArray 69)).cell? ⟨w.heap.size, 0, none⟩ = some (.int .i64 p.1) := (Bk.cell (Bk.new w _) 0).trans (PR_0 p.1 p.2)
  have c1 : (w.alloc (.cells (PR p).toArray 69)).cell? ⟨bx, 0, none⟩ = some (.int .i64 n) := Bk.cell hb2 0
  have hP : (PR p).toArray[0]? = some (.int .i64 p.1) := PR_0 p.1 p.2
  generalize (PR p).toArray = Y at *
  generalize p.1 = q at *
  clear hb hb2
  go_enter Tryd.func69, Tryd.ntmps69
  go_wp2
  go_ret
  exact ⟨rfl, Fr.alloc (Fr.refl _ _) _⟩

set_option maxHeartbeats 2000000 in
set_option maxRecDepth 100000 in
theorem sclo_calls (p : Int × Int) (bx : Nat) (n : Int) (w : World) (hb : Bk w bx #[.int .i64 n] 3) : Calls Tryd.prog 76 #[.agg (PR p).toArray, .pointer (some ⟨bx, 0, none⟩)] w fun e w' => e = .returned (.bool (p.2 == n)) ∧ Fr0 w w' := by
  have hb2 : Bk (w.alloc (.cells (PR p).toArray 69)) bx #[.int .i64 n] 3 := Bk.alloc hb _
  have c0 : (w.alloc (.cells (PR p).toArray 69)).cell? ⟨w.heap.size, 1, none⟩ = some (.int .i64 p.2) := (Bk.cell (Bk.new w _) 1).trans (PR_1 p.1 p.2)
  have c1 : (w.alloc (.cells (PR p).toArray 69)).cell? ⟨bx, 0, none⟩ = some (.int .i64 n) := Bk.cell hb2 0
  have hP : (PR p).toArray[1]? = some (.int .i64 p.2) := PR_1 p.1 p.2
  generalize (PR p).toArray = Y at *
  generalize p.2 = q at *
  clear hb hb2
  go_enter Tryd.func76, Tryd.ntmps76
  go_wp2
  go_ret
  exact ⟨rfl, Fr.alloc (Fr.refl _ _) _⟩

set_option maxHeartbeats 2000000 in
set_option maxRecDepth 100000 in
theorem pidx_calls (l : List (Int × Int)) (a : Option Addr) (c bx : Nat) (n : Int) (w : World) (hr : RdP w a l) (hlen : l.length ≤ 8796093022208) (hb : Bk w bx #[.int .i64 n] 3) : Calls Tryd.prog 68 #[.slice a l.length c, .func (Fn.func 69) #[] #[.pointer (some ⟨bx, 0, none⟩)]] w fun e w' => e = .returned (.int .i64 (idxI (fun p => p.1 == n) l)) ∧ Fr0 w w' := by
  have HRD := Lib.hid hr
  have HB := Lib.hid hb
  clear hr hb
  go_enter Tryd.func68, Tryd.ntmps68
  go_wp2
  go_loopw [8] (fun jj W => ∃ j : Nat, j ≤ l.length ∧ jj = .int .i64 j ∧ (∀ q (hq : q < j) (hq2 : q < l.length), (l[q].1 == n) = false) ∧ Fr0 w W) (fun jj _ => l.length - (intOf jj).toNat)
  case atStart => exact ⟨0, Nat.zero_le _, rfl, fun q hq => by omega, Fr.refl _ _⟩
  case round =>
    obtain ⟨j, hj, rfl, hno, hF⟩ := hrel
    have HNO := Lib.hid hno
    have HF := Lib.hid hF
    clear hno hF
    by_cases hjl : j < l.length
    · obtain ⟨b2, o2, rfl, hat⟩ := RdP.form HRD.out hjl
      have HRG := Lib.hid (hat _ (HRD.out.keep HF.out)).1
      have HCL := Lib.hid (pclo_calls l[j] bx n wr (HF.out.keep HB.out (fun h => h)))
      have HQ : Hid (∀ v, (l[j].1 == n) = v → (l[j].1 == n) = v) := Lib.hid (fun v h => h)
      clear hat
      cases hv : (l[j].1 == n) with
      | true =>
        have HI := Lib.hid (idxI_at (f := fun p => p.1 == n) hjl hv (fun q hq => HNO.out q hq (by omega)))
        rw [hv] at HCL
        clear hv HQ
        generalize l[j] = p at *
        go_wp2_with (first | ((with_reducible show wpList _ _ _ ({ dst := _, op := Op.load 69 _, type := _, pos := _, after := _, guard := _ } :: _) _ _); refine wpList_load_mid rfl 69 _ rfl b2 (o2 + j * 2) rfl (PR p) _ HRG.out Tryd.underlying69 rfl (info_pr _) ?_) | (go_at_call 69; (with_reducible refine (HCL.out).mono ?_); rintro e w7 ⟨rfl, hf7⟩; have HF7 := Lib.hid (HF.out.then0 hf7); clear hf7))
        go_ret
        exact ⟨by rw [HI.out]; rfl, HF7.out⟩
      | false =>
        have HV := Lib.hid hv
        rw [hv] at HCL
        clear hv HQ
        generalize hp : l[j] = p at *
        have HP := Lib.hid hp
        clear hp
        go_wp2_with (first | ((with_reducible show wpList _ _ _ ({ dst := _, op := Op.load 69 _, type := _, pos := _, after := _, guard := _ } :: _) _ _); refine wpList_load_mid rfl 69 _ rfl b2 (o2 + j * 2) rfl (PR p) _ HRG.out Tryd.underlying69 rfl (info_pr _) ?_) | (go_at_call 69; (with_reducible refine (HCL.out).mono ?_); rintro e w7 ⟨rfl, hf7⟩; have HF7 := Lib.hid (HF.out.then0 hf7); clear hf7))
        go_roundw
        case rel => exact ⟨j + 1, by omega, by go_num, fun q hq hq2 => by
            rcases Nat.lt_or_ge q j with h | h
            · exact HNO.out q h hq2
            · obtain rfl : q = j := by omega
              rw [HP.out]; exact HV.out, HF7.out⟩
        case measure => simp [intOf]; omega
    · have HI := Lib.hid (idxI_no (f := fun p => p.1 == n) (l := l) (fun q hq => HNO.out q (by omega) hq))
      go_wp2
      go_ret
      exact ⟨by rw [HI.out]; rfl, HF.out⟩

set_option maxHeartbeats 2000000 in
set_option maxRecDepth 100000 in
theorem sidx_calls (l : List (Int × Int)) (a : Option Addr) (c bx : Nat) (n : Int) (w : World) (hr : RdP w a l) (hlen : l.length ≤ 8796093022208) (hb : Bk w bx #[.int .i64 n] 3) : Calls Tryd.prog 68 #[.slice a l.length c, .func (Fn.func 76) #[] #[.pointer (some ⟨bx, 0, none⟩)]] w fun e w' => e = .returned (.int .i64 (idxI (fun p => p.2 == n) l)) ∧ Fr0 w w' := by
  have HRD := Lib.hid hr
  have HB := Lib.hid hb
  clear hr hb
  go_enter Tryd.func68, Tryd.ntmps68
  go_wp2
  go_loopw [8] (fun jj W => ∃ j : Nat, j ≤ l.length ∧ jj = .int .i64 j ∧ (∀ q (hq : q < j) (hq2 : q < l.length), (l[q].2 == n) = false) ∧ Fr0 w W) (fun jj _ => l.length - (intOf jj).toNat)
  case atStart => exact ⟨0, Nat.zero_le _, rfl, fun q hq => by omega, Fr.refl _ _⟩
  case round =>
    obtain ⟨j, hj, rfl, hno, hF⟩ := hrel
    have HNO := Lib.hid hno
    have HF := Lib.hid hF
    clear hno hF
    by_cases hjl : j < l.length
    · obtain ⟨b2, o2, rfl, hat⟩ := RdP.form HRD.out hjl
      have HRG := Lib.hid (hat _ (HRD.out.keep HF.out)).1
      have HCL := Lib.hid (sclo_calls l[j] bx n wr (HF.out.keep HB.out (fun h => h)))
      have HQ : Hid (∀ v, (l[j].2 == n) = v → (l[j].2 == n) = v) := Lib.hid (fun v h => h)
      clear hat
      cases hv : (l[j].2 == n) with
      | true =>
        have HI := Lib.hid (idxI_at (f := fun p => p.2 == n) hjl hv (fun q hq => HNO.out q hq (by omega)))
        rw [hv] at HCL
        clear hv HQ
        generalize l[j] = p at *
        go_wp2_with (first | ((with_reducible show wpList _ _ _ ({ dst := _, op := Op.load 69 _, type := _, pos := _, after := _, guard := _ } :: _) _ _); refine wpList_load_mid rfl 69 _ rfl b2 (o2 + j * 2) rfl (PR p) _ HRG.out Tryd.underlying69 rfl (info_pr _) ?_) | (go_at_call 76; (with_reducible refine (HCL.out).mono ?_); rintro e w7 ⟨rfl, hf7⟩; have HF7 := Lib.hid (HF.out.then0 hf7); clear hf7))
        go_ret
        exact ⟨by rw [HI.out]; rfl, HF7.out⟩
      | false =>
        have HV := Lib.hid hv
        rw [hv] at HCL
        clear hv HQ
        generalize hp : l[j] = p at *
        have HP := Lib.hid hp
        clear hp
        go_wp2_with (first | ((with_reducible show wpList _ _ _ ({ dst := _, op := Op.load 69 _, type := _, pos := _, after := _, guard := _ } :: _) _ _); refine wpList_load_mid rfl 69 _ rfl b2 (o2 + j * 2) rfl (PR p) _ HRG.out Tryd.underlying69 rfl (info_pr _) ?_) | (go_at_call 76; (with_reducible refine (HCL.out).mono ?_); rintro e w7 ⟨rfl, hf7⟩; have HF7 := Lib.hid (HF.out.then0 hf7); clear hf7))
        go_roundw
        case rel => exact ⟨j + 1, by omega, by go_num, fun q hq hq2 => by
            rcases Nat.lt_or_ge q j with h | h
            · exact HNO.out q h hq2
            · obtain rfl : q = j := by omega
              rw [HP.out]; exact HV.out, HF7.out⟩
        case measure => simp [intOf]; omega
    · have HI := Lib.hid (idxI_no (f := fun p => p.2 == n) (l := l) (fun q hq => HNO.out q (by omega) hq))
      go_wp2
      go_ret
      exact ⟨by rw [HI.out]; rfl, HF.out⟩

theorem idxI_ge (f : Int × Int → Bool) (l : List (Int × Int)) : decide (0 ≤ idxI f l) = l.any f := by
  rcases idxI_cases f l with ⟨h1, h2⟩ | ⟨k, hk, h1, h2, h3⟩
  · rw [h1, decide_eq_false (by omega)]
    symm
    rw [List.any_eq_false]
    exact fun x hx => by simp [h2 x hx]
  · rw [h1, decide_eq_true (by omega)]
    symm
    rw [List.any_eq_true]
    exact ⟨_, List.getElem_mem hk, h2⟩
set_option maxHeartbeats 2000000 in
set_option maxRecDepth 100000 in
theorem scont_calls (l : List (Int × Int)) (a : Option Addr) (c bx : Nat) (n : Int) (w : World) (hr : RdP w a l) (hlen : l.length ≤ 8796093022208) (hb : Bk w bx #[.int .i64 n] 3) : Calls Tryd.prog 75 #[.slice a l.length c, .func (Fn.func 76) #[] #[.pointer (some ⟨bx, 0, none⟩)]] w fun e w' => e = .returned (.bool (l.any (fun p => p.2 == n))) ∧ Fr0 w w' := by
  have HI := Lib.hid (sidx_calls l a c bx n w hr hlen hb)
  have HG := Lib.hid (idxI_ge (fun p => p.2 == n) l)
  clear hr hlen hb
  generalize idxI (fun p => p.2 == n) l = r at *
  go_enter Tryd.func75, Tryd.ntmps75
  go_wp2_with (go_at_call 68; (with_reducible refine HI.out.mono ?_); rintro e w1 ⟨rfl, hf⟩; have HF1 := Lib.hid hf; clear hf)
  go_ret
  exact ⟨by rw [← HG.out]; rfl, HF1.out⟩
/-- the place of a sector's pair -/
def plc (m : Rm) (n : Int) : Int := idxI (fun p => p.1 == n) m.ps
set_option maxHeartbeats 2000000 in
set_option maxRecDepth 100000 in
theorem place_calls (m : Rm) (a : Option Addr) (c : Nat) (n : Int) (w : World) (hv : RV w m a c) (hlen : m.ps.length ≤ 8796093022208) : Calls Tryd.prog 41 #[.agg (rval m a c), .int .i64 n] w fun e w' => e = .returned (.int .i64 (plc m n)) ∧ Fr0 w w' := by
  have hs1 : (w.alloc (.cells (rval m a c) 24)).heap.size = w.heap.size + 1 := by simp
  have hx : Bk ((w.alloc (.cells (rval m a c) 24)).alloc (.cells #[.int .i64 n] 3)) w.heap.size (rval m a c) 24 := Bk.alloc (Bk.new w _) _
  have c1 : ((w.alloc (.cells (rval m a c) 24)).alloc (.cells #[.int .i64 n] 3)).cell? ⟨w.heap.size, 1, none⟩ = some (.slice a m.ps.length c) := Bk.cell hx 1
  have hp1 : (rval m a c)[1]? = some (.slice a m.ps.length c) := rfl
  have HB : Hid (Bk ((w.alloc (.cells (rval m a c) 24)).alloc (.cells #[.int .i64 n] 3)) (w.heap.size + 1) #[.int .i64 n] 3) := Lib.hid (by have := Bk.new (w.alloc (.cells (rval m a c) 24)) (.cells #[.int .i64 n] 3); rwa [hs1] at this)
  have HF : Hid (Fr0 w ((w.alloc (.cells (rval m a c) 24)).alloc (.cells #[.int .i64 n] 3))) := Lib.hid (Fr.alloc (Fr.alloc (Fr.refl _ _) _) _)
  have HI := Lib.hid (pidx_calls m.ps a c (w.heap.size + 1) n _ (hv.rd.keep HF.out) hlen HB.out)
  have HPL : Hid (plc m n = idxI (fun p => p.1 == n) m.ps) := Lib.hid rfl
  clear hx hs1 hv
  generalize rval m a c = X at *
  generalize idxI (fun p => p.1 == n) m.ps = r at *
  rw [HPL.out]
  go_enter Tryd.func41, Tryd.ntmps41
  go_wp2_with (go_at_call 68; (with_reducible refine HI.out.mono ?_); rintro e w1 ⟨rfl, hf⟩; have HF1 := Lib.hid (HF.out.then0 hf); clear hf)
  go_ret
  exact ⟨rfl, HF1.out⟩
/-- the sector that stands for another one -/
def atI (m : Rm) (n : Int) : Int := match m.ps.find? (fun p => p.1 == n) with | some p => p.2 | none => n
theorem atI_no {m : Rm} {n : Int} (h : ∀ x ∈ m.ps, (x.1 == n) = false) : atI m n = n := by
  unfold atI
  rw [List.find?_eq_none.2 (fun x hx => by simp [h x hx])]
theorem atI_at {m : Rm} {n : Int} {k : Nat} (hk : k < m.ps.length) (h : (m.ps[k].1 == n) = true) (hn : ∀ q (hq : q < k), ((m.ps[q]'(by omega)).1 == n) = false) : atI m n = m.ps[k].2 := by
  unfold atI
  have e : m.ps.find? (fun p => p.1 == n) = some m.ps[k] := by
    rw [List.find?_eq_some_iff_getElem]
    exact ⟨h, k, hk, rfl, fun q hq => by simpa using hn q hq⟩
  rw [e]
set_option maxHeartbeats 2000000 in
set_option maxRecDepth 100000 in
theorem at_calls (m : Rm) (a : Option Addr) (c : Nat) (n : Int) (w : World) (hv : RV w m a c) (hlen : m.ps.length ≤ 8796093022208) : Calls Tryd.prog 15 #[.agg (rval m a c), .int .i64 n] w fun e w' => e = .returned (.int .i64 (atI m n)) ∧ Fr0 w w' := by
  have hx : Bk (w.alloc (.cells (rval m a c) 24)) w.heap.size (rval m a c) 24 := Bk.new w _
  have HX := Lib.hid hx
  have HF : Hid (Fr0 w (w.alloc (.cells (rval m a c) 24))) := Lib.hid (Fr.alloc (Fr.refl _ _) _)
  have HI := Lib.hid (place_calls m a c n _ (hv.keep HF.out) hlen)
  have HIN : Hid ((Tryd.prog.info? 24).map (·.size) = some (rval m a c).size) := Lib.hid (info_r _ _)
  have HP1 : Hid ((rval m a c)[1]? = some (.slice a m.ps.length c)) := Lib.hid rfl
  have HV := Lib.hid hv
  clear hx hv
  rcases idxI_cases (fun p => p.1 == n) m.ps with ⟨h1, h2⟩ | ⟨k, hk, h1, h2, h3⟩
  · rw [show plc m n = -1 from h1] at HI
    rw [atI_no h2]
    clear h1 h2
    generalize rval m a c = X at *
    go_enter Tryd.func15, Tryd.ntmps15
    go_wp2_with (first | ((with_reducible show wpList _ _ _ ({ dst := _, op := Op.load 24 _, type := _, pos := _, after := _, guard := _ } :: _) _ _); refine wpList_load_row_g (by rfl) 24 _ rfl w.heap.size rfl 24 X (0, 0) _ HX.out Tryd.underlying24 rfl HIN.out ?_) | (go_at_call 41; (with_reducible refine HI.out.mono ?_); rintro e w1 ⟨rfl, hf⟩; have HF1 := Lib.hid (HF.out.then0 hf); clear hf))
    go_ret
    exact ⟨rfl, HF1.out⟩
  · rw [show plc m n = k from h1] at HI
    rw [atI_at hk h2 h3]
    obtain ⟨b2, o2, rfl, hat⟩ := RdP.form HV.out.rd hk
    have HAT := Lib.hid hat
    clear h1 h2 h3 hat
    generalize rval m (some ⟨b2, o2, none⟩) c = X at *
    go_enter Tryd.func15, Tryd.ntmps15
    go_wp2_with (first | ((with_reducible show wpList _ _ _ ({ dst := _, op := Op.load 24 _, type := _, pos := _, after := _, guard := _ } :: _) _ _); refine wpList_load_row_g (by rfl) 24 _ rfl w.heap.size rfl 24 X (0, 0) _ HX.out Tryd.underlying24 rfl HIN.out ?_) | (go_at_call 41; (with_reducible refine HI.out.mono ?_); rintro e w1 ⟨rfl, hf⟩; have HF1 := Lib.hid (HF.out.then0 hf); have cx : w1.cell? ⟨w.heap.size, 1, none⟩ = some (.slice (some ⟨b2, o2, none⟩) m.ps.length c) := (Bk.cell (hf.keep HX.out (fun h => h)) 1).trans HP1.out; have cq : w1.cell? ⟨b2, o2 + k * 2 + 1, none⟩ = some (.int .i64 m.ps[k].2) := (HAT.out _ (HV.out.rd.keep HF1.out)).2.2; clear hf))
    go_ret
    exact ⟨rfl, HF1.out⟩
set_option maxHeartbeats 2000000 in
set_option maxRecDepth 100000 in
theorem rat_calls (m : Rm) (a : Option Addr) (c : Nat) (n : Int) (w : World) (hv : RV w m a c) (hlen : m.ps.length ≤ 8796093022208) : Calls Tryd.prog 16 #[.agg (rval m a c), .int .i64 n] w fun e w' => e = .returned (.int .i64 (atI m n)) ∧ Fr0 w w' := by
  have HX : Hid (Bk (w.alloc (.cells (rval m a c) 24)) w.heap.size (rval m a c) 24) := Lib.hid (Bk.new w _)
  have HF : Hid (Fr0 w (w.alloc (.cells (rval m a c) 24))) := Lib.hid (Fr.alloc (Fr.refl _ _) _)
  have c1 : (w.alloc (.cells (rval m a c) 24)).cell? ⟨w.heap.size, 1, none⟩ = some (.slice a m.ps.length c) := Bk.cell HX.out 1
  have hp1 : (rval m a c)[1]? = some (.slice a m.ps.length c) := rfl
  have HR := Lib.hid (hv.rd.keep HF.out)
  clear hv
  generalize rval m a c = X at *
  go_enter Tryd.func16, Tryd.ntmps16
  go_wp2
  clear HX
  generalize w.alloc (.cells X 24) = w5 at *
  go_loop [5] (fun jj => ∃ j : Nat, j ≤ m.ps.length ∧ jj = .int .i64 j ∧ (∀ q (hq : q < j) (hq2 : q < m.ps.length), (m.ps[q].1 == n) = false)) (fun jj => m.ps.length - (intOf jj).toNat)
  case atStart => exact ⟨0, Nat.zero_le _, rfl, fun q hq => by omega⟩
  case round =>
    obtain ⟨j, hj, rfl, hno⟩ := hrel
    have HNO := Lib.hid hno
    clear hno
    by_cases hjl : j < m.ps.length
    · obtain ⟨b2, o2, rfl, hat⟩ := RdP.form HR.out hjl
      have ha := hat _ HR.out
      have f0 := ha.2.1
      have f1 := ha.2.2
      clear hat ha
      cases hv : (m.ps[j].1 == n) with
      | true =>
        have HI := Lib.hid (atI_at hjl hv (fun q hq => HNO.out q hq (by omega)))
        generalize m.ps[j].1 = p1 at *
        generalize m.ps[j].2 = p2 at *
        go_wp2
        go_ret
        exact ⟨by rw [HI.out]; rfl, HF.out⟩
      | false =>
        generalize hp : m.ps[j].1 = p1 at *
        have HP := Lib.hid hp
        have HVV := Lib.hid hv
        clear hp
        go_wp2
        go_round
        case rel => exact ⟨j + 1, by omega, by go_num, fun q hq hq2 => by
            rcases Nat.lt_or_ge q j with h | h
            · exact HNO.out q h hq2
            · obtain rfl : q = j := by omega
              rw [HP.out]; exact HVV.out⟩
        case measure => simp [intOf]; omega
    · have HI := Lib.hid (atI_no (m := m) (n := n) (fun x hx => by
        obtain ⟨q, hq, rfl⟩ := List.mem_iff_getElem.1 hx
        exact HNO.out q (by omega) hq))
      go_wp2
      go_ret
      exact ⟨by rw [HI.out]; rfl, HF.out⟩

end Go.Proofs.YtlleandelcjhjaaDoor.RmAsk
