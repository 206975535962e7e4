/- Each state becomes another one: become, Sweep, Settle. -/
import Derived.Test.YtpbhnpoldjdfdaaSpNew
set_option linter.unusedVariables false
set_option linter.unusedSimpArgs false
namespace Go.Proofs.Ytpbhnpoldjdfdaa.SpBecome
open Go Go.RowKit Go.Proofs.Ytpbhnpoldjdfdaa.K Go.Proofs.Ytpbhnpoldjdfdaa.EqKit Go.Proofs.Ytpbhnpoldjdfdaa.ArrKit Go.Proofs.Ytpbhnpoldjdfdaa.HeldKit Go.Proofs.Ytpbhnpoldjdfdaa.GKit Go.Proofs.Ytpbhnpoldjdfdaa.GRow Go.Proofs.Ytpbhnpoldjdfdaa.SpKit Go.Proofs.Ytpbhnpoldjdfdaa.SpAsk Go.Proofs.Ytpbhnpoldjdfdaa.SpFind Go.Proofs.Ytpbhnpoldjdfdaa.SpNew

theorem OwnU.set1 {w : World} {g cap : Nat} {cur : Array Value} {l : List UInt8} (h : OwnU w g cap cur l) {i : Nat} (hi : i < l.length) (y : UInt8) : OwnU (w.setCell ⟨g, i, none⟩ (B y)) g cap (cur.setIfInBounds i (B y)) (l.set i y) := by
  have hsz := h.size
  have hrm := h.room
  refine OwnG.set h (fun _ _ => rfl) hi y rfl _ _ (Bk.set h.blk i (B y)) (by simp) (fun j u hj => ?_) (fun m hm => ?_)
  · have hj0 : j = 0 := by
      have := (List.getElem?_eq_some_iff.1 hj).1
      simp only [List.length_cons, List.length_nil] at this
      omega
    subst hj0
    rw [Nat.mul_one, Nat.add_zero, Array.getElem?_setIfInBounds, if_pos rfl, if_pos (by omega)]
    exact hj
  · rw [Array.getElem?_setIfInBounds, if_neg (by omega)]
def bec (T : List UInt8) (x : UInt8) : UInt8 := T.getD x.toNat 0
/-- the first k of them become another one -/
def becK (T l : List UInt8) (k : Nat) : List UInt8 := (l.take k).map (bec T) ++ l.drop k
theorem becK_len (T l : List UInt8) (k : Nat) : (becK T l k).length = l.length := by
  simp [becK]; omega
theorem becK_at {T l : List UInt8} {k : Nat} (h : k < l.length) : (becK T l k)[k]'(by rw [becK_len]; exact h) = l[k] := by
  unfold becK
  rw [List.getElem_append_right (by simp; omega)]
  simp only [List.length_map, List.length_take]
  rw [List.getElem_drop]
  congr 1
  omega
theorem becK_succ {T l : List UInt8} {k : Nat} (h : k < l.length) : (becK T l k).set k (bec T l[k]) = becK T l (k + 1) := by
  unfold becK
  rw [List.set_append_right _ _ (by simp; omega)]
  have e1 : k - ((l.take k).map (bec T)).length = 0 := by simp; omega
  rw [e1, List.drop_eq_getElem_cons h, List.set_cons_zero, List.take_succ_eq_append_getElem h, List.map_append, List.append_assoc]
  rfl
theorem becK_all (T l : List UInt8) : becK T l l.length = l.map (bec T) := by simp [becK]
/-- the space in p is s now; nothing else is changed -/
structure Now (w w' : World) (p : Nat) (s : Sp) : Prop where
  at_ : ∃ g c, w.heap.size ≤ g ∧ SAt w' p s g 0 c
  fr : Fr (fun i => i = p) w w'
set_option maxHeartbeats 4000000 in
set_option maxRecDepth 100000 in
theorem become_calls (p : Nat) (T : List UInt8) (s : Sp) (g o c : Nat) (w : World) (hT : T.length = 5) (hok : s.ok) (h : SAt w p s g o c) : Calls Try.prog 20 #[.pointer (some ⟨p, 0, none⟩), .agg (T.map B).toArray] w fun e w' => e = .returned (.int .i64 0) ∧ Now w w' p ⟨s.a, s.b, s.z, s.st.map (bec T)⟩ := by
  have hpw := Bk.lt h.blk
  have HX0 : Hid (Bk (w.alloc (.cells (T.map B).toArray 52)) w.heap.size (T.map B).toArray 52) := Lib.hid (Bk.new w _)
  have HF0 : Hid (Fr0 w (w.alloc (.cells (T.map B).toArray 52))) := Lib.hid (Fr.alloc (Fr.refl _ _) _)
  have HB0 : Hid (Bk (w.alloc (.cells (T.map B).toArray 52)) p (sval s g o c) 26) := Lib.hid (Bk.alloc h.blk _)
  have HFO : Hid (∀ W, Fr0 w W → Calls Try.prog 11 #[.agg (sval s g o c)] W fun e w' => e = .returned (.bool true) ∧ Fr0 W w') := Lib.hid (fun W f => formed_calls s g o c W hok (h.rd.keep f))
  have HCL : Hid (∀ W, Fr0 w W → Calls Try.prog 14 #[.slice (some ⟨g, o, none⟩) s.st.length c] W fun e w' => ∃ g1 c1 cur, e = .returned (.slice (some ⟨g1, 0, none⟩) s.st.length c1) ∧ W.heap.size ≤ g1 ∧ OwnU w' g1 c1 cur s.st ∧ Fr0 W w') := Lib.hid (fun W f => clone_calls g o c s.st W (h.rd.keep f) (by have := hok.len; have := hok.z2; omega))
  have HTC : Hid (∀ k, k < 5 → (T.map B).toArray[k]? = some (B (T.getD k 0))) := Lib.hid (fun k hk => by
    rw [List.getElem?_toArray, List.getElem?_map, List.getD_eq_getElem?_getD, List.getElem?_eq_getElem (by omega)]; rfl)
  have HI : Hid ((Try.prog.info? 26).map (·.size) = some (sval s g o c).size) := Lib.hid (by kernel_rfl)
  obtain ⟨h1, h2, h3, h4, h5, h6⟩ := hok
  obtain ⟨a, b, z, st⟩ := s
  have HLO := Lib.hid h6
  have HLN := Lib.hid h5
  simp only [sval] at *
  rw [h5] at HB0 HFO HCL HI
  have c3 : (w.alloc (.cells (T.map B).toArray 52)).cell? ⟨p, 3, none⟩ = some (.slice (some ⟨g, o, none⟩) (2 * z) c) := Bk.cell HB0.out 3
  clear h h5 h6 hT
  generalize (T.map B).toArray = TC at *
  go_enter Try.func20, Try.ntmps20
  go_wp2_with (first | ((with_reducible show wpList _ _ _ ({ dst := _, op := Op.load 26 _, type := _, pos := _, after := _, guard := _ } :: _) _ _); refine wpList_load_row_g (by rfl) 26 _ rfl p rfl 26 _ (0, 0) _ HB0.out Try.underlying26 rfl HI.out ?_) | (go_at_call 11; (with_reducible refine (HFO.out _ HF0.out).mono ?_); rintro e w1 ⟨rfl, hf1⟩; have HF1 := Lib.hid (HF0.out.then0 hf1); have HB1 := Lib.hid (hf1.keep HB0.out (fun h => h)); have HX1 := Lib.hid (hf1.keep HX0.out (fun h => h)); have d3 : w1.cell? ⟨p, 3, none⟩ = some (.slice (some ⟨g, o, none⟩) (2 * z) c) := Bk.cell HB1.out 3; clear hf1) | (go_at_call 14; (with_reducible refine (HCL.out _ HF1.out).mono ?_); rintro e w2 ⟨g1, c1, cur, rfl, hg1, ho1, hf2⟩; have HG1 := Lib.hid hg1; have HO2 := Lib.hid ho1; have HF2 := Lib.hid (HF1.out.then0 hf2); have HB2 := Lib.hid (hf2.keep HB1.out (fun h => h)); have HX2 := Lib.hid (hf2.keep HX1.out (fun h => h)); have e3 : w2.cell? ⟨p, 3, none⟩ = some (.slice (some ⟨g, o, none⟩) (2 * z) c) := Bk.cell HB2.out 3; have f3 := Bk.free HB2.out 3; have HS1 := Lib.hid (HF1.out.size); have HSX : Hid (w.heap.size < w1.heap.size) := Lib.hid (Bk.lt HX1.out); clear hg1 ho1 hf2))
  have hgp : g1 ≠ p := by have := HG1.out; have := HS1.out; omega
  have hgx : g1 ≠ w.heap.size := by have := HG1.out; have := HSX.out; omega
  have hwg : w.heap.size ≤ g1 := by have := HG1.out; have := HS1.out; omega
  have HO3 := Lib.hid (OwnG.keep HO2.out (Fr.set1 w2 p 3 (.slice (some ⟨g1, 0, none⟩) (2 * z) c1)) hgp)
  have HB3 : Hid (Bk (w2.setCell ⟨p, 3, none⟩ (.slice (some ⟨g1, 0, none⟩) (2 * z) c1)) p (SC a b z (.slice (some ⟨g1, 0, none⟩) (2 * z) c1)) 26) := Lib.hid (Bk.set HB2.out 3 (.slice (some ⟨g1, 0, none⟩) (2 * z) c1))
  have HX3 : Hid (Bk (w2.setCell ⟨p, 3, none⟩ (.slice (some ⟨g1, 0, none⟩) (2 * z) c1)) w.heap.size TC 52) := Lib.hid ((Fr.set1 w2 p 3 (.slice (some ⟨g1, 0, none⟩) (2 * z) c1)).keep HX2.out (by omega))
  have HF3 : Hid (Fr (fun i => i = p) w (w2.setCell ⟨p, 3, none⟩ (.slice (some ⟨g1, 0, none⟩) (2 * z) c1))) := Lib.hid (Fr.set (HF2.out.weaken (fun _ _ h => h.elim)) _ _ (.inr rfl))
  clear c3 d3 e3 f3 HB0 HX0 HF0 HB1 HX1 HF1 HB2 HX2 HF2 HO2 HFO HCL HG1 HS1 HSX HI
  generalize (w2.setCell ⟨p, 3, none⟩ (.slice (some ⟨g1, 0, none⟩) (2 * z) c1)) = w3 at *
  go_loopw [29] (fun i wr => ∃ (k : Nat) (cur : Array Value), k ≤ 2 * z ∧ i = .int .i64 k ∧ OwnU wr g1 c1 cur (becK T st k) ∧ Bk wr p (SC a b z (.slice (some ⟨g1, 0, none⟩) (2 * z) c1)) 26 ∧ Bk wr w.heap.size TC 52 ∧ Fr (fun i => i = p) w wr) (fun i _ => 2 * z - (intOf i).toNat)
  case atStart => exact ⟨0, cur, Nat.zero_le _, rfl, HO3.out, HB3.out, HX3.out, HF3.out⟩
  case round =>
    clear HO3 HB3 HX3 HF3
    obtain ⟨k, cur, hk, rfl, hO, hB, hX, hF⟩ := hrel
    have HO := Lib.hid hO
    have HB := Lib.hid hB
    have HX := Lib.hid hX
    have HF := Lib.hid hF
    have c3 : wr.cell? ⟨p, 3, none⟩ = some (.slice (some ⟨g1, 0, none⟩) (2 * z) c1) := Bk.cell hB 3
    by_cases hlt : k < 2 * z
    · have hls : k < st.length := by have := HLN.out; omega
      have ck := RdU.cell hO.rd (i := k) (by rw [becK_len]; exact hls)
      rw [Nat.zero_add, becK_at hls] at ck
      have HSU : Hid ((becK T st k).set k (bec T st[k]) = becK T st (k + 1)) := Lib.hid (becK_succ hls)
      have hx4 := HLO.out _ (List.getElem_mem hls)
      have cT : wr.cell? ⟨w.heap.size, st[k].toNat, none⟩ = some (B (T.getD st[k].toNat 0)) := (Bk.cell hX _).trans (HTC.out _ (by omega))
      have fk := Bk.free hO.blk k
      have HTX : Hid (T.getD st[k].toNat 0 = bec T st[k]) := Lib.hid rfl
      rw [HTX.out] at cT
      have HKL : Hid (k < (becK T st k).length) := Lib.hid (by rw [becK_len]; exact hls)
      generalize bec T st[k] = y at *
      generalize st[k] = x at *
      simp only [B] at ck cT
      generalize x.toNat = xn at *
      clear hO hB hX hF HTX
      have hx4i : (xn : Int) < 5 := by omega
      have hkz : (k : Int) < 2 * (z : Int) := by omega
      go_wp2
      go_still_tail 9, (by kernel_rfl)
      change wpList _ _ _ _ _ wr.drew
      have ckd : wr.drew.cell? ⟨g1, k, none⟩ = some (.int .u8 (xn : Int)) := ck
      have fkd : wr.drew.frozen? ⟨g1, k, none⟩ = false := fk
      have HOd : Hid (OwnU wr.drew g1 c1 cur (becK T st k)) := Lib.hid (OwnG.keep HO.out (Fr.drew (Fr.refl (fun _ => False) _)) (fun h => h))
      have HBd : Hid (Bk wr.drew p (SC a b z (.slice (some ⟨g1, 0, none⟩) (2 * z) c1)) 26) := Lib.hid HB.out
      have HXd : Hid (Bk wr.drew w.heap.size TC 52) := Lib.hid HX.out
      have HFd : Hid (Fr (fun i => i = p) w wr.drew) := Lib.hid (Fr.drew HF.out)
      clear ck fk c3 cT
      generalize wr.drew = wd at *
      go_wp2
      have HO5 := OwnU.set1 HOd.out HKL.out y
      rw [HSU.out] at HO5
      go_roundw
      case rel => exact ⟨k + 1, _, by omega, by go_num, HO5, Bk.setOther HBd.out _ _ (by show p ≠ g1; omega), Bk.setOther HXd.out _ _ (by show w.heap.size ≠ g1; omega), Fr.set HFd.out (⟨g1, k, none⟩ : Addr) _ (.inl (by show w.heap.size ≤ g1; exact hwg))⟩
      case measure => simp [intOf]; omega
    · have HKE : Hid (becK T st k = st.map (bec T)) := Lib.hid (by rw [show k = st.length by have := HLN.out; omega]; exact becK_all T st)
      rw [HKE.out] at HO
      have hcap := hO.room
      have hmax := hO.max
      rw [becK_len] at hcap
      clear HKE hO hB hX hF
      go_wp2
      go_ret
      refine ⟨rfl, ⟨g1, c1, hwg, ?_, HO.out.rd, by rw [List.length_map]; exact hcap, hmax⟩, HF.out⟩
      show Bk wr p (SC a b z (.slice (some ⟨g1, 0, none⟩) (st.map (bec T)).length c1)) 26
      rw [List.length_map, HLN.out]
      exact HB.out

def Tsweep : List UInt8 := [0, 1, 2, 3, 0]
set_option maxHeartbeats 2000000 in
set_option maxRecDepth 100000 in
theorem sweep_calls (p : Nat) (s : Sp) (g o c : Nat) (w : World) (hok : s.ok) (h : SAt w p s g o c) : Calls Try.prog 8 #[.pointer (some ⟨p, 0, none⟩)] w fun e w' => e = .returned (.int .i64 0) ∧ Now w w' p ⟨s.a, s.b, s.z, s.st.map (bec Tsweep)⟩ := by
  have HBE := Lib.hid (become_calls p Tsweep s g o c w rfl hok h)
  have hbd : Try.prog.built 52 [(1, .int .u8 1), (2, .int .u8 2), (3, .int .u8 3)] = some (Tsweep.map B).toArray := by kernel_rfl
  generalize (Tsweep.map B).toArray = TC at *
  clear h hok
  go_enter Try.func8, Try.ntmps8
  go_wp2_with (first | ((with_reducible show wpList _ _ _ ({ dst := _, op := Op.build 52 _, type := _, pos := _, after := _, guard := _ } :: _) _ _); refine build_ev rfl 52 _ rfl [(1, .int .u8 1), (2, .int .u8 2), (3, .int .u8 3)] (by simp [Act.eval, Act.put]) TC hbd ?_) | (go_at_call 20; (with_reducible refine (HBE.out).mono ?_); rintro e w1 ⟨rfl, hn⟩; have HN := Lib.hid hn; clear hn))
  go_ret
  exact ⟨rfl, HN.out⟩

def Tsettle : List UInt8 := [0, 1, 1, 0, 0]
set_option maxHeartbeats 2000000 in
set_option maxRecDepth 100000 in
theorem settle_calls (p : Nat) (s : Sp) (g o c : Nat) (w : World) (hok : s.ok) (h : SAt w p s g o c) : Calls Try.prog 9 #[.pointer (some ⟨p, 0, none⟩)] w fun e w' => e = .returned (.int .i64 0) ∧ Now w w' p ⟨s.a, s.b, s.z, s.st.map (bec Tsettle)⟩ := by
  have HBE := Lib.hid (become_calls p Tsettle s g o c w rfl hok h)
  have hbd : Try.prog.built 52 [(1, .int .u8 1), (2, .int .u8 1)] = some (Tsettle.map B).toArray := by kernel_rfl
  generalize (Tsettle.map B).toArray = TC at *
  clear h hok
  go_enter Try.func9, Try.ntmps9
  go_wp2_with (first | ((with_reducible show wpList _ _ _ ({ dst := _, op := Op.build 52 _, type := _, pos := _, after := _, guard := _ } :: _) _ _); refine build_ev rfl 52 _ rfl [(1, .int .u8 1), (2, .int .u8 1)] (by simp [Act.eval, Act.put]) TC hbd ?_) | (go_at_call 20; (with_reducible refine (HBE.out).mono ?_); rintro e w1 ⟨rfl, hn⟩; have HN := Lib.hid hn; clear hn))
  go_ret
  exact ⟨rfl, HN.out⟩

end Go.Proofs.Ytpbhnpoldjdfdaa.SpBecome
