/- The theorems that the claim uses, text behind text (part 6). -/
import Derived.Test.YtlleandelcjhjaaDoorZaa
import Derived.Test.YtlleandelcjhjaaDoorZab
import Derived.Test.YtlleandelcjhjaaDoorZac
import Derived.Test.YtlleandelcjhjaaDoorZae
import Derived.Maps.OwnSet
import Derived.Maps.OwnOps
import Derived.Test.YtlleandelcjhjaaDoorProg
set_option linter.unusedVariables false
set_option linter.unusedSimpArgs false
set_option maxRecDepth 100000
namespace Go.Proofs.YtlleandelcjhjaaDoor.DiskFlush
open Go Go.RowKit Go.Proofs.YtlleandelcjhjaaDoor.K Go.Proofs.YtlleandelcjhjaaDoor.EqKit Go.Proofs.YtlleandelcjhjaaDoor.ArrKit Go.Proofs.YtlleandelcjhjaaDoor.HeldKit Go.Proofs.YtlleandelcjhjaaDoor.GKit Go.Proofs.YtlleandelcjhjaaDoor.GRow Go.Proofs.YtlleandelcjhjaaDoor.DiskKit Go.Proofs.YtlleandelcjhjaaDoor.DiskAsk Go.Proofs.YtlleandelcjhjaaDoor.DiskForm Go.Proofs.YtlleandelcjhjaaDoor.DiskAct Go.Proofs.YtlleandelcjhjaaDoor.DiskNew Go.Proofs.YtlleandelcjhjaaDoor.DiskCopy Go.Proofs.YtlleandelcjhjaaDoor.DiskLay
set_option maxHeartbeats 2000000 in
set_option maxRecDepth 100000 in
theorem clf_calls (i : Nat) (w : World) : Calls Tryd.prog 77 #[.int .i64 i] w fun e w' => e = .returned (.bool true) ∧ Fr0 w w' := by
  go_enter Tryd.func77, Tryd.ntmps77
  go_wp2
  go_ret
  exact ⟨rfl, Fr.refl _ _⟩
def RdB : World → Option Addr → List Bool → Prop := RdG (fun b : Bool => [Value.bool b]) 1
theorem RdB.cell {w : World} {ka : Option Addr} {keep : List Bool} (h : RdB w ka keep) {i : Nat} (hi : i < keep.length) : ∃ b o, ka = some ⟨b, o, none⟩ ∧ w.cell? ⟨b, o + i, none⟩ = some (.bool (keep.getD i false)) := by
  obtain ⟨b, o, e, hr⟩ := h i hi
  refine ⟨b, o, e, ?_⟩
  have := hr 0 _ rfl
  rw [Nat.mul_one, Nat.add_zero] at this
  rw [this, List.getD_eq_getElem?_getD, List.getElem?_eq_getElem hi]; rfl
set_option maxHeartbeats 2000000 in
set_option maxRecDepth 100000 in
theorem clc_calls (kp i : Nat) (ka : Option Addr) (kc : Nat) (keep : List Bool) (w : World) (hi : (i : Int) ≤ 9223372036854775807) (hkc : keep.length ≤ kc) (hkm : kc ≤ 9223372036854775807) (hk : w.cell? ⟨kp, 0, none⟩ = some (.slice ka keep.length kc)) (hrd : RdB w ka keep) : Calls Tryd.prog 60 #[.int .i64 i, .pointer (some ⟨kp, 0, none⟩)] w fun e w' => e = .returned (.bool (keep.getD i false)) ∧ Fr0 w w' := by
  by_cases hlt : i < keep.length
  · obtain ⟨b, o, rfl, hc⟩ := hrd.cell hlt
    clear hrd
    generalize keep.getD i false = kb at *
    go_enter Tryd.func60, Tryd.ntmps60
    go_wp2
    go_ret
    exact ⟨rfl, Fr.refl _ _⟩
  · rw [show keep.getD i false = false by rw [List.getD_eq_getElem?_getD, List.getElem?_eq_none (by omega)]; rfl]
    clear hrd
    go_enter Tryd.func60, Tryd.ntmps60
    go_wp2
    go_ret
    exact ⟨rfl, Fr.refl _ _⟩
/-- the disk in the variable is d now; nothing else is changed -/
theorem Laid.now {w w1 w2 : World} {p : Nat} {d d' : Dk} {sa : Option Addr} {sc : Nat} {ca : Option Addr} {cc : Nat} (f : Fr0 w w1) (h : Aft w1 w2 p d sa sc ca cc) : Now w w2 p d := ⟨⟨sa, sc, ca, cc, h.at_⟩, (f.weaken (S' := fun i => i = p) (fun _ _ h => h.elim)).trans h.fr⟩
theorem Laid.fr0 {w w1 w2 : World} {p : Nat} {d : Dk} (f : Fr0 w w1) (h : Laid w1 w2 p d) : Now w w2 p d := by
  obtain ⟨⟨sa, sc, h⟩, k⟩ := h
  exact ⟨⟨sa, sc, none, 0, h⟩, (f.weaken (S' := fun i => i = p) (fun _ _ h => h.elim)).trans k⟩
theorem Laid.fr1 {w w1 w2 : World} {p : Nat} {d : Dk} (f : Fr (fun i => i = p) w w1) (h : Laid w1 w2 p d) : Now w w2 p d := by
  obtain ⟨⟨sa, sc, h⟩, k⟩ := h
  exact ⟨⟨sa, sc, none, 0, h⟩, f.trans k⟩
theorem Now.same {w w1 : World} {p : Nat} {d : Dk} {sa : Option Addr} {sc : Nat} {ca : Option Addr} {cc : Nat} (h : DAt w p d sa sc ca cc) (f : Fr0 w w1) : Now w w1 p d := ⟨⟨sa, sc, ca, cc, h.keep f⟩, f.weaken (fun _ _ h => h.elim)⟩
theorem formed_act {d : Dk} : formedB (actD d) = formedB d := by rw [formedB, formedB, actD_S, actD_C]
theorem actE_cases (d : Dk) : actE d = 3 ∨ actE d = 0 := by unfold actE; split; exact .inl rfl; exact .inr rfl
set_option maxHeartbeats 2000000 in
set_option maxRecDepth 100000 in
theorem flush_wrong (p : Nat) (d : Dk) (sa : Option Addr) (sc : Nat) (ca : Option Addr) (cc : Nat) (w : World) (hok : d.ok) (hv : DAt w p d sa sc ca cc) (hr : formedB d = false) : Calls Tryd.prog 49 #[.pointer (some ⟨p, 0, none⟩)] w fun e w' => e = .returned (.int .i64 1) ∧ Now w w' p d := by
  have HRI := Lib.hid (right_calls p 0 d sa sc ca cc w hok hv)
  rw [right0, hr] at HRI
  have HV := Lib.hid hv
  clear hv hok hr
  go_enter Tryd.func49, Tryd.ntmps49
  go_wp2_with (go_at_call 58; (with_reducible refine (HRI.out).mono ?_); rintro e w2 ⟨rfl, hf2⟩; have HF2 := Lib.hid hf2; clear hf2)
  go_ret
  exact ⟨rfl, Now.same HV.out HF2.out⟩
set_option maxHeartbeats 2000000 in
set_option maxRecDepth 100000 in
theorem flush_down (p : Nat) (d : Dk) (sa : Option Addr) (sc : Nat) (ca : Option Addr) (cc : Nat) (w : World) (hok : d.ok) (hv : DAt w p d sa sc ca cc) (hr : formedB d = true) (ha : actE d = 3) : Calls Tryd.prog 49 #[.pointer (some ⟨p, 0, none⟩)] w fun e w' => e = .returned (.int .i64 3) ∧ Now w w' p (actD d) := by
  have HRI := Lib.hid (right_calls p 0 d sa sc ca cc w hok hv)
  rw [right0, hr] at HRI
  have HSP := Lib.hid (fun W (h : Fr0 w W) => spend_calls p d sa sc ca cc W hok (hv.keep h))
  rw [ha] at HSP
  clear hv hok hr ha
  go_enter Tryd.func49, Tryd.ntmps49
  go_wp2_with (first | (go_at_call 58; (with_reducible refine (HRI.out).mono ?_); rintro e w2 ⟨rfl, hf2⟩; have HF2 := Lib.hid hf2; clear hf2) | (go_at_call 73; (with_reducible refine (HSP.out _ HF2.out).mono ?_); rintro e w3 ⟨rfl, hf3⟩; have HA3 := Lib.hid hf3; clear hf3))
  go_ret
  exact ⟨rfl, Laid.now (d' := d) HF2.out HA3.out⟩
set_option maxHeartbeats 2000000 in
set_option maxRecDepth 100000 in
theorem flush_good (p : Nat) (d : Dk) (sa : Option Addr) (sc : Nat) (ca : Option Addr) (cc : Nat) (w : World) (hok : d.ok) (hv : DAt w p d sa sc ca cc) (hr : formedB d = true) (ha : actE d = 0) : Calls Tryd.prog 49 #[.pointer (some ⟨p, 0, none⟩)] w fun e w' => e = .returned (.int .i64 0) ∧ Now w w' p (layD (actD d) (fun _ => true)) := by
  have HRI := Lib.hid (right_calls p 0 d sa sc ca cc w hok hv)
  rw [right0, hr] at HRI
  have HSP := Lib.hid (fun W (h : Fr0 w W) => spend_calls p d sa sc ca cc W hok (hv.keep h))
  rw [ha] at HSP
  have HLA := Lib.hid (fun W (h : DAt W p (actD d) sa sc ca cc) => lay_f_calls p (actD d) sa sc ca cc (fun _ => true) W (actD_ok hok) h (formed_act.trans hr) (fun i W' _ _ => clf_calls i W'))
  clear hv hok hr ha
  go_enter Tryd.func49, Tryd.ntmps49
  go_wp2_with (first | (go_at_call 58; (with_reducible refine (HRI.out).mono ?_); rintro e w2 ⟨rfl, hf2⟩; have HF2 := Lib.hid hf2; clear hf2) | (go_at_call 73; (with_reducible refine (HSP.out _ HF2.out).mono ?_); rintro e w3 ⟨rfl, hf3⟩; have HA3 := Lib.hid hf3; clear hf3) | (go_at_call 59; (with_reducible refine (HLA.out _ HA3.out.at_).mono ?_); rintro e w4 ⟨⟨v4, rfl⟩, hf4⟩; have HA4 := Lib.hid hf4; clear hf4))
  go_ret
  exact ⟨rfl, Laid.fr1 ((HF2.out.weaken (fun _ _ h => h.elim)).trans HA3.out.fr) HA4.out⟩
/-- FLUSH: what disk.Flush does. -/
theorem flush_calls (p : Nat) (d : Dk) (sa : Option Addr) (sc : Nat) (ca : Option Addr) (cc : Nat) (w : World) (hok : d.ok) (hv : DAt w p d sa sc ca cc) : Calls Tryd.prog 49 #[.pointer (some ⟨p, 0, none⟩)] w fun e w' => e = .returned (.int .i64 (flushE d)) ∧ Now w w' p (flushD d) := by
  unfold flushE flushD
  rw [right0]
  cases hr : formedB d with
  | false => rw [if_pos rfl, if_pos rfl]; exact flush_wrong p d sa sc ca cc w hok hv hr
  | true =>
    rw [if_neg (by simp), if_neg (by simp)]
    rcases actE_cases d with ha | ha
    · rw [if_pos ha, ha]; exact flush_down p d sa sc ca cc w hok hv hr ha
    · rw [if_neg (by omega), ha]; exact flush_good p d sa sc ca cc w hok hv hr ha

set_option maxHeartbeats 2000000 in
set_option maxRecDepth 100000 in
theorem crash_wrong (p : Nat) (ka : Option Addr) (kc : Nat) (keep : List Bool) (d : Dk) (sa : Option Addr) (sc : Nat) (ca : Option Addr) (cc : Nat) (w : World) (hok : d.ok) (hv : DAt w p d sa sc ca cc) (hr : formedB d = false) : Calls Tryd.prog 31 #[.pointer (some ⟨p, 0, none⟩), .slice ka keep.length kc] w fun e w' => e = .returned (.int .i64 1) ∧ Now w w' p d := by
  have HF0 : Hid (Fr0 w (w.alloc (.cells #[.slice ka keep.length kc] 54))) := Lib.hid (Fr.alloc (Fr.refl _ _) _)
  have HRI := Lib.hid (right_calls p 0 d sa sc ca cc (w.alloc (.cells #[.slice ka keep.length kc] 54)) hok (hv.keep HF0.out))
  rw [right0, hr] at HRI
  have HV := Lib.hid hv
  clear hv hok hr
  go_enter Tryd.func31, Tryd.ntmps31
  go_wp2_with (go_at_call 58; (with_reducible refine (HRI.out).mono ?_); rintro e w2 ⟨rfl, hf2⟩; have HF2 := Lib.hid (HF0.out.then0 hf2); clear hf2)
  go_ret
  exact ⟨rfl, Now.same HV.out HF2.out⟩
set_option maxHeartbeats 2000000 in
set_option maxRecDepth 100000 in
theorem crash_good (p : Nat) (ka : Option Addr) (kc : Nat) (keep : List Bool) (d : Dk) (sa : Option Addr) (sc : Nat) (ca : Option Addr) (cc : Nat) (w : World) (hok : d.ok) (hv : DAt w p d sa sc ca cc) (hr : formedB d = true) (hkc : keep.length ≤ kc) (hkm : kc ≤ 9223372036854775807) (hrd : RdB w ka keep) (hkp : ∀ a, ka = some a → keep ≠ [] → a.block ≠ p) (hC : d.C.length ≤ 9223372036854775807) : Calls Tryd.prog 31 #[.pointer (some ⟨p, 0, none⟩), .slice ka keep.length kc] w fun e w' => e = .returned (.int .i64 0) ∧ Now w w' p { layD d (fun i => keep.getD i false) with fuse := -1, down := false } := by
  have hpw : p < w.heap.size := Bk.lt hv.blk
  have HF0 : Hid (Fr0 w (w.alloc (.cells #[.slice ka keep.length kc] 54))) := Lib.hid (Fr.alloc (Fr.refl _ _) _)
  have HRI := Lib.hid (right_calls p 0 d sa sc ca cc (w.alloc (.cells #[.slice ka keep.length kc] 54)) hok (hv.keep HF0.out))
  rw [right0, hr] at HRI
  have HKP : Hid (Bk (w.alloc (.cells #[.slice ka keep.length kc] 54)) w.heap.size #[.slice ka keep.length kc] 54) := Lib.hid (Bk.new w _)
  have HLA := Lib.hid (fun W (h : Fr0 (w.alloc (.cells #[.slice ka keep.length kc] 54)) W) => lay_c_calls w.heap.size p d sa sc ca cc (fun i => keep.getD i false) W hok ((hv.keep HF0.out).keep h) hr (fun i W' hi f => clc_calls w.heap.size i ka kc keep W' (by omega) hkc hkm (Bk.cell (f.keep (h.keep HKP.out (fun h => h)) (by omega)) 0) (RdG.later ((RdG.keep hrd HF0.out).keep h) f hkp)))
  have HLO := Lib.hid (layD_ok hok (fun i => keep.getD i false))
  have hmf : ∀ (fn : Fn) (first cap : Array Value) (W : World), (Instr.makeFunc fn first cap).run Tryd.prog W = .ok (.func fn first cap) W := fun _ _ _ _ => rfl
  clear hv hok hr hrd hkp
  go_enter Tryd.func31, Tryd.ntmps31
  go_wp2_with (first | (go_at_call 58; (with_reducible refine (HRI.out).mono ?_); rintro e w2 ⟨rfl, hf2⟩; have HF2 := Lib.hid hf2; clear hf2) | (go_at_call 59; (with_reducible refine (HLA.out _ HF2.out).mono ?_); rintro e w4 ⟨⟨v4, rfl⟩, ⟨⟨sb, sd, hv4⟩, hf4⟩⟩; have HV4 := Lib.hid hv4; have HF4 := Lib.hid hf4; have q2 : w4.cell? ⟨p, 2, none⟩ = some (.int .i64 _) := Bk.cell hv4.blk 2; have q3 : w4.cell? ⟨p, 3, none⟩ = some (.bool _) := Bk.cell hv4.blk 3; have f2 := Bk.free hv4.blk 2; have f3 := Bk.free hv4.blk 3; clear hv4 hf4))
  go_ret
  have h5 := DAt.setF HV4.out HLO.out (-1)
  have h6 := DAt.setDn h5 ⟨HLO.out.s, HLO.out.c, (show (Lit.int .i64 (-1)).wf = true by decide)⟩ false
  exact ⟨rfl, ⟨⟨_, _, _, _, h6⟩, Fr.set (Fr.set (((HF0.out.then0 HF2.out).weaken (S' := fun i => i = p) (fun _ _ h => h.elim)).trans HF4.out) _ _ (.inr rfl)) _ _ (.inr rfl)⟩⟩
/-- CRASH: what disk.Crash does. -/
theorem crash_calls (p : Nat) (ka : Option Addr) (kc : Nat) (keep : List Bool) (d : Dk) (sa : Option Addr) (sc : Nat) (ca : Option Addr) (cc : Nat) (w : World) (hok : d.ok) (hv : DAt w p d sa sc ca cc) (hkc : keep.length ≤ kc) (hkm : kc ≤ 9223372036854775807) (hrd : RdB w ka keep) (hkp : ∀ a, ka = some a → keep ≠ [] → a.block ≠ p) : Calls Tryd.prog 31 #[.pointer (some ⟨p, 0, none⟩), .slice ka keep.length kc] w fun e w' => e = .returned (.int .i64 (crashE d)) ∧ Now w w' p (crashD d keep) := by
  unfold crashE crashD
  rw [right0]
  cases hr : formedB d with
  | false => rw [if_pos rfl, if_pos rfl]; exact crash_wrong p ka kc keep d sa sc ca cc w hok hv hr
  | true => rw [if_neg (by simp), if_neg (by simp)]; exact crash_good p ka kc keep d sa sc ca cc w hok hv hr hkc hkm hrd hkp (by have := hv.v.cn; have := hv.v.cm; omega)

end Go.Proofs.YtlleandelcjhjaaDoor.DiskFlush
namespace Go.Proofs.YtlleandelcjhjaaDoor.MapKit
open Go Go.RowKit Go.Proofs.YtlleandelcjhjaaDoor.K
open Go.Maps (Keyed IsMap Tidy)
def Dm (l : List Int) : DataW Unit := l.foldl (fun D x => D.put (.int .i64 x) (.lit (.bool true))) (.map [])
theorem Dm_snoc (l : List Int) (x : Int) : Dm (l ++ [x]) = (Dm l).put (.int .i64 x) (.lit (.bool true)) := by simp [Dm]
section
variable {P : Program} {k e t : TypeId}
/-- block b is a map that holds true at the numbers of l -/
def IM (w : World) (P : Program) (k e : TypeId) (b : Nat) (l : List Int) : Prop := w.ownsMap P k (plainElem P e) b l.length (Dm l)
theorem IM.made (w : World) (P : Program) (k e : TypeId) : IM (w.alloc (.map #[] 0)) P k e w.heap.size [] := World.ownsMap_made w P k _
theorem IM.keep {S : Nat → Prop} {w w' : World} {b : Nat} {l : List Int} (h : IM w P k e b l) (f : Fr S w w') (hs : ¬ S b) : IM w' P k e b l := by
  obtain ⟨es, c, hb, h2⟩ := h
  have hlt : b < w.heap.size := by
    rcases Nat.lt_or_ge b w.heap.size with h | h
    · exact h
    · rw [Array.getElem?_eq_none h] at hb; cases hb
  exact ⟨es, c, (f.block b hlt hs).trans hb, h2⟩
theorem IM.lt {w : World} {b : Nat} {l : List Int} (h : IM w P k e b l) : b < w.heap.size := World.ownsMap.lt h
theorem plainElem_bool_inv (he : P.underlying e = some .bool) {v : Value} {z : DataW Unit × List MemPlace} (h : plainElem P e v = some z) : ∃ x, v = .bool x ∧ z = (.lit (.bool x), []) := by
  unfold plainElem at h
  rw [he] at h
  cases v <;> simp at h
  rename_i x
  exact ⟨x, rfl, h.symm⟩
theorem at_Dm (l : List Int) (hl : ∀ x ∈ l, (Lit.int .i64 x).wf = true) (x : Int) (hx : (Lit.int .i64 x).wf = true) : IsMap (Dm l) ∧ (Dm l).atKey (.int .i64 x) (.lit (.bool false)) = .lit (.bool (l.contains x)) := by
  induction h : l.length generalizing l with
  | zero =>
    obtain rfl := List.eq_nil_of_length_eq_zero h
    exact ⟨⟨[], rfl⟩, rfl⟩
  | succ n ih =>
    obtain ⟨l, y, rfl⟩ : ∃ m y, l = m ++ [y] := by
      rcases List.eq_nil_or_concat l with rfl | ⟨m, y, e⟩
      · simp at h
      · exact ⟨m, y, by simpa using e⟩
    obtain ⟨h1, h2⟩ := ih l (fun z hz => hl z (List.mem_append_left _ hz)) (by simpa using h)
    rw [Dm_snoc]
    have hk : WideAt.IsKeyLit (.int .i64 y) := trivial
    refine ⟨h1.put _ _, ?_⟩
    by_cases e1 : x = y
    · subst e1
      rw [Maps.atKey_put_same h1 hk]
      simp
    · rw [Maps.atKey_put_other (by intro h; injection h with _ h; exact e1 h), h2]
      simp [e1]
theorem IM.look {w : World} {b : Nat} {l : List Int} (h : IM w P k e b l) (hk : P.underlying k = some (.int .i64)) (he : P.underlying e = some .bool) (ht : P.underlying t = some (.map k e)) (hz : (zeroValue e).run P w = .ok (.bool false) w) (hl : ∀ x ∈ l, (Lit.int .i64 x).wf = true) (x : Int) (hx : (Lit.int .i64 x).wf = true) : (Instr.lookup t (.map (some b)) (.int .i64 x) false).run P w = .ok (.bool (l.contains x)) w := by
  obtain ⟨v, ps, hrun, hv⟩ := World.ownsMap.lookup h (Maps.int_keyed hk) ht hz (plainElem_bool he false) (Maps.keyOf_int_mk hk hx)
  obtain ⟨y, rfl, h2⟩ := plainElem_bool_inv he hv
  rw [(at_Dm l hl x hx).2] at h2
  simp only [Prod.mk.injEq, DataW.lit.injEq, Lit.bool.injEq] at h2
  rw [hrun, ← h2.1]
theorem IM.put {w : World} {b : Nat} {l : List Int} (h : IM w P k e b l) (hk : P.underlying k = some (.int .i64)) (he : P.underlying e = some .bool) (ht : P.underlying t = some (.map k e)) (x : Int) (hx : (Lit.int .i64 x).wf = true) (hn : l.length < 1000000) : ∃ w', (Instr.mapUpdate t (.map (some b)) (.int .i64 x) (.bool true)).run P w = .ok () w' ∧ IM w' P k e b (l ++ [x]) ∧ Fr (fun i => i = b) w w' := by
  obtain ⟨w', hr, ho, hg⟩ := World.ownsMap.update h (Maps.int_keyed hk) ht (by unfold maxLen; omega) (Maps.keyOf_int_mk hk hx) (plainElem_bool he true)
  refine ⟨w', hr, ?_, ⟨hg.os, hg.tape, hg.output, hg.size, fun i hi hs => hg.block i hi (by intro h; cases h; exact hs rfl)⟩⟩
  unfold IM
  rw [Dm_snoc, List.length_append]
  exact ho
end
end Go.Proofs.YtlleandelcjhjaaDoor.MapKit
namespace Go.Proofs.YtlleandelcjhjaaDoor.RmKit
open Go Go.RowKit Go.Proofs.YtlleandelcjhjaaDoor.K Go.Proofs.YtlleandelcjhjaaDoor.EqKit Go.Proofs.YtlleandelcjhjaaDoor.ArrKit Go.Proofs.YtlleandelcjhjaaDoor.HeldKit Go.Proofs.YtlleandelcjhjaaDoor.GKit Go.Proofs.YtlleandelcjhjaaDoor.GRow Go.Proofs.YtlleandelcjhjaaDoor.DiskKit
structure Rm where
  gen : Int
  ps : List (Int × Int)
def PR (p : Int × Int) : List Value := [.int .i64 p.1, .int .i64 p.2]
theorem PR_len (p : Int × Int) : (PR p).length = 2 := rfl
theorem PR_one (p : Int × Int) : ∀ v ∈ PR p, v.oneCell' = true := fun v hv => by
  simp only [PR, List.mem_cons, List.not_mem_nil, or_false] at hv
  rcases hv with rfl | rfl <;> rfl
def RdP (w : World) (a : Option Addr) (l : List (Int × Int)) : Prop := RdG PR 2 w a l
theorem RdP.keep {w w1 : World} {a : Option Addr} {l : List (Int × Int)} (h : RdP w a l) (f : Fr0 w w1) : RdP w1 a l := RdG.keep h f
structure Rm.ok (m : Rm) : Prop where
  g : (Lit.int .i64 m.gen).wf = true
  p : ∀ x ∈ m.ps, (Lit.int .i64 x.1).wf = true ∧ (Lit.int .i64 x.2).wf = true
def RC (g : Int) (v : Value) : Array Value := #[.int .i64 g, v]
def rval (m : Rm) (a : Option Addr) (c : Nat) : Array Value := RC m.gen (.slice a m.ps.length c)
theorem info_r (g : Int) (v : Value) : (Tryd.prog.info? 24).map (·.size) = some (RC g v).size := by kernel_rfl
theorem info_pr (p : Int × Int) : (Tryd.prog.info? 69).map (·.size) = some (PR p).length := by kernel_rfl
theorem info_pr2 (p : Int × Int) : (Tryd.prog.info? 69).map (·.size) = some (PR p).toArray.size := by kernel_rfl
/-- a table's pairs lie so -/
structure RV (w : World) (m : Rm) (a : Option Addr) (c : Nat) : Prop where
  rd : RdP w a m.ps
  len : m.ps.length ≤ c
  max : c ≤ 9223372036854775807
theorem RV.keep {w w1 : World} {m : Rm} {a : Option Addr} {c : Nat} (h : RV w m a c) (f : Fr0 w w1) : RV w1 m a c := ⟨h.rd.keep f, h.len, h.max⟩
/-- one pair's cells -/
theorem RdP.form {w : World} {a : Option Addr} {l : List (Int × Int)} (h : RdP w a l) {j : Nat} (hj : j < l.length) : ∃ b o, a = some ⟨b, o, none⟩ ∧ ∀ W, RdP W a l → W.rangeAt b (o + j * 2) (PR l[j]) ∧ W.cell? ⟨b, o + j * 2, none⟩ = some (.int .i64 l[j].1) ∧ W.cell? ⟨b, o + j * 2 + 1, none⟩ = some (.int .i64 l[j].2) := by
  obtain ⟨b, o, e, -⟩ := h j hj
  subst e
  refine ⟨b, o, rfl, fun W hW => ?_⟩
  have hr := RdG.at hW hj
  exact ⟨hr, hr 0 _ rfl, hr 1 _ rfl⟩
def half (s : Int) : Int := if s < 28 ∨ 4096 < s ∨ s % 2 = 1 then 0 else (s - 20) / 2
theorem half_lo {s : Int} (h : half s ≠ 0) : 28 ≤ s ∧ s ≤ 4096 ∧ s % 2 = 0 ∧ 2 * half s + 20 = s ∧ 4 ≤ half s := by
  unfold half at h ⊢
  split at h
  · exact absurd rfl h
  · rename_i h1
    rw [if_neg h1]
    omega
theorem half_range (s : Int) : 0 ≤ half s ∧ half s ≤ 2038 := by
  unfold half
  split <;> omega
def usableB (n h : Int) : Bool := decide (0 < h) && decide (0 ≤ n) && decide (n < 2 * h) && decide (1 < n % h)

set_option maxHeartbeats 2000000 in
set_option maxRecDepth 100000 in
theorem half_calls (s : Int) (w : World) (hs : (Lit.int .i64 s).wf = true) : Calls Tryd.prog 17 #[.int .i64 s] w fun e w' => e = .returned (.int .i64 (half s)) ∧ w' = w := by
  by_cases h1 : s < 28
  · have e : half s = 0 := by unfold half; rw [if_pos (.inl h1)]
    rw [e]
    go_enter Tryd.func17, Tryd.ntmps17
    go_wp2
    go_ret
    exact ⟨rfl, rfl⟩
  · by_cases h2 : 4096 < s
    · have e : half s = 0 := by unfold half; rw [if_pos (.inr (.inl h2))]
      rw [e]
      go_enter Tryd.func17, Tryd.ntmps17
      go_wp2
      go_ret
      exact ⟨rfl, rfl⟩
    · have ht : Int.tmod s 2 = s % 2 := Int.tmod_eq_emod_of_nonneg (by omega)
      have hd : Int.tdiv (s - 20) 2 = (s - 20) / 2 := Int.tdiv_eq_ediv_of_nonneg (by omega)
      by_cases h3 : s % 2 = 1
      · have e : half s = 0 := by unfold half; rw [if_pos (.inr (.inr h3))]
        have ht1 : Int.tmod s 2 = 1 := ht.trans h3
        clear ht h3 hd
        rw [e]
        go_enter Tryd.func17, Tryd.ntmps17
        go_wp2
        go_ret
        exact ⟨rfl, rfl⟩
      · have ht1 : Int.tmod s 2 = 0 := by rw [ht]; omega
        have e : half s = (s - 20) / 2 := by unfold half; rw [if_neg (by omega)]
        have hq : Hid (half s = Int.tdiv (s - 20) 2) := Lib.hid (by rw [e, hd])
        have hr : 0 ≤ Int.tdiv (s - 20) 2 ∧ Int.tdiv (s - 20) 2 ≤ 3000 := by rw [hd]; omega
        clear ht h3 hd e
        rw [hq.out]
        go_enter Tryd.func17, Tryd.ntmps17
        go_wp2
        go_ret
        exact ⟨rfl, rfl⟩

set_option maxHeartbeats 2000000 in
set_option maxRecDepth 100000 in
theorem usable_calls (n h : Int) (w : World) (hn : (Lit.int .i64 n).wf = true) (hh : 0 ≤ h ∧ h ≤ 2038) : Calls Tryd.prog 39 #[.int .i64 n, .int .i64 h] w fun e w' => e = .returned (.bool (usableB n h)) ∧ w' = w := by
  by_cases h1 : 0 < h
  case neg =>
    have e : usableB n h = false := by simp [usableB, h1]
    rw [e]
    have hz : h = 0 := by omega
    subst hz
    clear e h1

    go_enter Tryd.func39, Tryd.ntmps39
    go_wp2
    go_ret
    exact ⟨rfl, rfl⟩
  by_cases h2 : 0 ≤ n
  case neg =>
    have e : usableB n h = false := by simp [usableB, h2]
    rw [e]
    clear e
    have h2' : n < 0 := by omega

    go_enter Tryd.func39, Tryd.ntmps39
    go_wp2
    go_ret
    exact ⟨rfl, rfl⟩
  by_cases h3 : n < 2 * h
  case neg =>
    have e : usableB n h = false := by simp [usableB, h3]
    rw [e]
    clear e
    have h3' : 2 * h ≤ n := by omega

    go_enter Tryd.func39, Tryd.ntmps39
    go_wp2
    go_ret
    exact ⟨rfl, rfl⟩
  have ht : Int.tmod n h = n % h := Int.tmod_eq_emod_of_nonneg h2
  have hnz : ¬ h = 0 := by omega
  have hm := Int.emod_nonneg n hnz
  have hm2 := Int.emod_lt_of_pos n h1
  have e : usableB n h = decide (1 < n % h) := by simp [usableB, h1, h2, h3]
  rw [e]
  clear e
  go_enter Tryd.func39, Tryd.ntmps39
  go_wp2
  go_ret
  exact ⟨rfl, rfl⟩

end Go.Proofs.YtlleandelcjhjaaDoor.RmKit
namespace Go.Proofs.YtlleandelcjhjaaDoor.RmRight
open Go Go.RowKit Go.Proofs.YtlleandelcjhjaaDoor.K Go.Proofs.YtlleandelcjhjaaDoor.EqKit Go.Proofs.YtlleandelcjhjaaDoor.ArrKit Go.Proofs.YtlleandelcjhjaaDoor.HeldKit Go.Proofs.YtlleandelcjhjaaDoor.GKit Go.Proofs.YtlleandelcjhjaaDoor.GRow Go.Proofs.YtlleandelcjhjaaDoor.DiskKit Go.Proofs.YtlleandelcjhjaaDoor.RmKit Go.Proofs.YtlleandelcjhjaaDoor.MapKit
def pok (h s : Int) (p : Int × Int) : Bool := usableB p.1 h && decide (2 * h ≤ p.2) && decide (p.2 < s)
def stepB (h s : Int) (l : List (Int × Int)) (i : Nat) : Bool := pok h s (l.getD i (0, 0)) && !(((l.take i).map (·.1)).contains (l.getD i (0, 0)).1) && !(((l.take i).map (·.2)).contains (l.getD i (0, 0)).2)
def tabB (m : Rm) (s : Int) : Bool := decide (half s ≠ 0) && decide (0 ≤ m.gen) && decide (m.gen ≤ 4611686018427387904) && decide (m.ps.length ≤ 20) && (List.range m.ps.length).all (stepB (half s) s m.ps)
theorem all_no {f : Nat → Bool} {n i : Nat} (hi : i < n) (h : f i = false) : (List.range n).all f = false := by
  rw [List.all_eq_false]
  exact ⟨i, List.mem_range.2 hi, by simp [h]⟩
theorem all_yes {f : Nat → Bool} {n : Nat} (h : ∀ i, i < n → f i = true) : (List.range n).all f = true := by
  rw [List.all_eq_true]
  exact fun i hi => h i (List.mem_range.1 hi)
theorem PR_all (p : Int × Int) : (PR p).toArray.all (·.oneCell') = true := by
  rw [Array.all_eq_true']
  intro v hv
  exact PR_one p v (by simpa using hv)
theorem wp_mapUpdate_run {P : Program} {o : Oper} {a : Act} {w w' : World} {K : Act → World → Prop} {Q : Exit → Act → World → Prop} (m x v : Operand) (t : TypeId) (hop : o.op = Op.mapUpdate t m x v) (M X V : Value) (hm : a.eval m = M) (hx : a.eval x = X) (hv : a.eval v = V)
    (hr : (Instr.mapUpdate t M X V).run P w = .ok () w') (h : K (a.put o.dst undef) w') : o.wp P a w K Q := by
  unfold Oper.wp
  simp [execOp, hop, hm, hx, hv, hr, Result.andThen]
  exact h
theorem PR_0 (f t : Int) : (PR (f, t)).toArray[0]? = some (.int .i64 f) := rfl
theorem PR_1 (f t : Int) : (PR (f, t)).toArray[1]? = some (.int .i64 t) := rfl
def MZ : Array Value := #[.map none, .map none]
def PZ2 : Array Value := #[.int .i64 0, .int .i64 0]
theorem zero_m (W : World) : (zeroValue 74).run Tryd.prog W = .ok (.agg MZ) W := by kernel_rfl
theorem zero_pr (W : World) : (zeroValue 69).run Tryd.prog W = .ok (.agg PZ2) W := by kernel_rfl
theorem zero_b (W : World) : (zeroValue 4).run Tryd.prog W = .ok (.bool false) W := by kernel_rfl

set_option maxHeartbeats 2000000 in
set_option maxRecDepth 100000 in
theorem right_no (m : Rm) (a : Option Addr) (c : Nat) (s : Int) (w : World) (hs : (Lit.int .i64 s).wf = true) (hn : half s = 0 ∨ m.gen < 0 ∨ 4611686018427387904 < m.gen ∨ 20 < m.ps.length) : Calls Tryd.prog 13 #[.agg (rval m a c), .int .i64 s] w fun e w' => e = .returned (.bool false) ∧ Fr0 w w' := by
  have HX : Hid (Bk (w.alloc (.cells (rval m a c) 24)) w.heap.size (rval m a c) 24) := Lib.hid (Bk.new w _)
  have c0 : (w.alloc (.cells (rval m a c) 24)).cell? ⟨w.heap.size, 0, none⟩ = some (.int .i64 m.gen) := Bk.cell HX.out 0
  have c1 : (w.alloc (.cells (rval m a c) 24)).cell? ⟨w.heap.size, 1, none⟩ = some (.slice a m.ps.length c) := Bk.cell HX.out 1
  have HHF : Hid (∀ W, Calls Tryd.prog 17 #[.int .i64 s] W fun e w' => e = .returned (.int .i64 (half s)) ∧ w' = W) := Lib.hid (fun W => half_calls s W hs)
  clear HX
  generalize rval m a c = X at *
  by_cases h1 : half s = 0
  · rw [h1] at HHF
    clear hn h1
    go_enter Tryd.func13, Tryd.ntmps13
    go_wp2_with (first | (go_at_call 17; (with_reducible refine (HHF.out _).mono ?_); rintro e w1 ⟨rfl, rfl⟩))
    go_ret
    exact ⟨rfl, Fr.alloc (Fr.refl _ _) _⟩
  have hr := half_range s
  have h1b : (half s == 0) = false := by simpa using h1
  by_cases h2 : m.gen < 0
  · clear hn
    go_enter Tryd.func13, Tryd.ntmps13
    go_wp2_with (first | (go_at_call 17; (with_reducible refine (HHF.out _).mono ?_); rintro e w1 ⟨rfl, rfl⟩))
    go_ret
    exact ⟨rfl, Fr.alloc (Fr.refl _ _) _⟩
  by_cases h3 : 4611686018427387904 < m.gen
  · clear hn
    go_enter Tryd.func13, Tryd.ntmps13
    go_wp2_with (first | (go_at_call 17; (with_reducible refine (HHF.out _).mono ?_); rintro e w1 ⟨rfl, rfl⟩))
    go_ret
    exact ⟨rfl, Fr.alloc (Fr.refl _ _) _⟩
  · have h4 : 20 < m.ps.length := by omega
    clear hn
    go_enter Tryd.func13, Tryd.ntmps13
    go_wp2_with (first | (go_at_call 17; (with_reducible refine (HHF.out _).mono ?_); rintro e w1 ⟨rfl, rfl⟩))
    go_ret
    exact ⟨rfl, Fr.alloc (Fr.refl _ _) _⟩

set_option maxHeartbeats 2000000 in
set_option maxRecDepth 100000 in
theorem right_loop (m : Rm) (a : Option Addr) (c : Nat) (s : Int) (w : World) (hok : m.ok) (hv : RV w m a c) (hs : (Lit.int .i64 s).wf = true) (h1 : half s ≠ 0) (h2 : 0 ≤ m.gen) (h3 : m.gen ≤ 4611686018427387904) (h4 : m.ps.length ≤ 20) : Calls Tryd.prog 13 #[.agg (rval m a c), .int .i64 s] w fun e w' => e = .returned (.bool ((List.range m.ps.length).all (stepB (half s) s m.ps))) ∧ Fr0 w w' := by
  have HX : Hid (Bk (w.alloc (.cells (rval m a c) 24)) w.heap.size (rval m a c) 24) := Lib.hid (Bk.new w _)
  have c0 : (w.alloc (.cells (rval m a c) 24)).cell? ⟨w.heap.size, 0, none⟩ = some (.int .i64 m.gen) := Bk.cell HX.out 0
  have c1 : (w.alloc (.cells (rval m a c) 24)).cell? ⟨w.heap.size, 1, none⟩ = some (.slice a m.ps.length c) := Bk.cell HX.out 1
  have HHF : Hid (∀ W, Calls Tryd.prog 17 #[.int .i64 s] W fun e w' => e = .returned (.int .i64 (half s)) ∧ w' = W) := Lib.hid (fun W => half_calls s W hs)
  have hl := half_lo h1
  have HV := Lib.hid hv
  have HPW := Lib.hid hok.p
  have hzm := zero_m
  have hzp := zero_pr
  have hmm := @run_makeMap Tryd.prog
  have HF0 : Hid (Fr0 w (w.alloc (.cells (rval m a c) 24))) := Lib.hid (Fr.alloc (Fr.refl _ _) _)
  clear hv hok HX
  have p0 : (rval m a c)[0]? = some (.int .i64 m.gen) := rfl
  have p1 : (rval m a c)[1]? = some (.slice a m.ps.length c) := rfl
  have h2b : decide (m.gen < 0) = false := decide_eq_false (by omega)
  have h3b : decide (4611686018427387904 < m.gen) = false := decide_eq_false (by omega)
  have h4b : decide (20 < (m.ps.length : Int)) = false := decide_eq_false (by omega)
  generalize rval m a c = X at *
  have h1b : (half s == 0) = false := by simpa using h1
  generalize hH : half s = h at *
  clear hH
  go_enter Tryd.func13, Tryd.ntmps13
  go_wp2_with (first | (go_at_call 17; (with_reducible refine (HHF.out _).mono ?_); rintro e w1 ⟨rfl, rfl⟩))
  have hs1 : (w.alloc (.cells X 24)).heap.size = w.heap.size + 1 := by simp
  have hs2 : ((w.alloc (.cells X 24)).alloc (.cells ((MZ.setIfInBounds 0 (.map (some (w.heap.size + 1 + 1)))).setIfInBounds 1 (.map (some (w.heap.size + 1 + 1 + 1)))) 74)).heap.size = w.heap.size + 1 + 1 := by simp
  have hs3 : (((w.alloc (.cells X 24)).alloc (.cells ((MZ.setIfInBounds 0 (.map (some (w.heap.size + 1 + 1)))).setIfInBounds 1 (.map (some (w.heap.size + 1 + 1 + 1)))) 74)).alloc (.map #[] 0)).heap.size = w.heap.size + 1 + 1 + 1 := by simp
  have HXB : Hid (Bk ((((w.alloc (.cells X 24)).alloc (.cells ((MZ.setIfInBounds 0 (.map (some (w.heap.size + 1 + 1)))).setIfInBounds 1 (.map (some (w.heap.size + 1 + 1 + 1)))) 74)).alloc (.map #[] 0)).alloc (.map #[] 0)) w.heap.size X 24) := Lib.hid (Bk.alloc (Bk.alloc (Bk.alloc (Bk.new w _) _) _) _)
  have HMB : Hid (Bk ((((w.alloc (.cells X 24)).alloc (.cells ((MZ.setIfInBounds 0 (.map (some (w.heap.size + 1 + 1)))).setIfInBounds 1 (.map (some (w.heap.size + 1 + 1 + 1)))) 74)).alloc (.map #[] 0)).alloc (.map #[] 0)) (w.heap.size + 1) #[.map (some (w.heap.size + 1 + 1)), .map (some (w.heap.size + 1 + 1 + 1))] 74) := Lib.hid (Bk.alloc (Bk.alloc (by have := Bk.new (w.alloc (.cells X 24)) (.cells ((MZ.setIfInBounds 0 (.map (some (w.heap.size + 1 + 1)))).setIfInBounds 1 (.map (some (w.heap.size + 1 + 1 + 1)))) 74); rwa [hs1] at this) _) _)
  have HI0 : Hid (IM ((((w.alloc (.cells X 24)).alloc (.cells ((MZ.setIfInBounds 0 (.map (some (w.heap.size + 1 + 1)))).setIfInBounds 1 (.map (some (w.heap.size + 1 + 1 + 1)))) 74)).alloc (.map #[] 0)).alloc (.map #[] 0)) Tryd.prog 3 4 (w.heap.size + 1 + 1) []) := Lib.hid (IM.keep (by have := IM.made ((w.alloc (.cells X 24)).alloc (.cells ((MZ.setIfInBounds 0 (.map (some (w.heap.size + 1 + 1)))).setIfInBounds 1 (.map (some (w.heap.size + 1 + 1 + 1)))) 74)) Tryd.prog 3 4; rwa [hs2] at this) (Fr.alloc (Fr.refl (fun _ => False) _) _) (fun h => h))
  have HI1 : Hid (IM ((((w.alloc (.cells X 24)).alloc (.cells ((MZ.setIfInBounds 0 (.map (some (w.heap.size + 1 + 1)))).setIfInBounds 1 (.map (some (w.heap.size + 1 + 1 + 1)))) 74)).alloc (.map #[] 0)).alloc (.map #[] 0)) Tryd.prog 3 4 (w.heap.size + 1 + 1 + 1) []) := Lib.hid (by have := IM.made (((w.alloc (.cells X 24)).alloc (.cells ((MZ.setIfInBounds 0 (.map (some (w.heap.size + 1 + 1)))).setIfInBounds 1 (.map (some (w.heap.size + 1 + 1 + 1)))) 74)).alloc (.map #[] 0)) Tryd.prog 3 4; rwa [hs3] at this)
  have HF5 : Hid (Fr0 w ((((w.alloc (.cells X 24)).alloc (.cells ((MZ.setIfInBounds 0 (.map (some (w.heap.size + 1 + 1)))).setIfInBounds 1 (.map (some (w.heap.size + 1 + 1 + 1)))) 74)).alloc (.map #[] 0)).alloc (.map #[] 0))) := Lib.hid (Fr.alloc (Fr.alloc (Fr.alloc (Fr.alloc (Fr.refl _ _) _) _) _) _)
  have HW0 : Hid (w.heap.size < w.heap.size + 1 ∧ w.heap.size + 1 < w.heap.size + 1 + 1 ∧ w.heap.size + 1 + 1 < w.heap.size + 1 + 1 + 1) := Lib.hid (by omega)
  clear hs1 hs2 hs3 c0 c1 HF0
  generalize ((((w.alloc (.cells X 24)).alloc (.cells ((MZ.setIfInBounds 0 (.map (some (w.heap.size + 1 + 1)))).setIfInBounds 1 (.map (some (w.heap.size + 1 + 1 + 1)))) 74)).alloc (.map #[] 0)).alloc (.map #[] 0)) = w5 at *
  generalize w.heap.size + 1 + 1 + 1 = m1 at *
  generalize w.heap.size + 1 + 1 = m0 at *
  generalize w.heap.size + 1 = bs at *
  go_loopw [36] (fun jj W => ∃ j : Nat, j ≤ m.ps.length ∧ jj = .int .i64 j ∧ (∀ i, i < j → stepB h s m.ps i = true) ∧ IM W Tryd.prog 3 4 m0 ((m.ps.take j).map (·.1)) ∧ IM W Tryd.prog 3 4 m1 ((m.ps.take j).map (·.2)) ∧ Bk W w.heap.size X 24 ∧ Bk W bs #[.map (some m0), .map (some m1)] 74 ∧ Fr0 w W) (fun jj _ => m.ps.length - (intOf jj).toNat)
  case atStart => exact ⟨0, Nat.zero_le _, rfl, fun i hi => by omega, HI0.out, HI1.out, HXB.out, HMB.out, HF5.out⟩
  case round =>
    obtain ⟨j, hj, rfl, hst, hi0, hi1, hxb, hmb, hF⟩ := hrel
    by_cases hjl : j < m.ps.length
    · obtain ⟨b2, o2, rfl, hat⟩ := RdP.form HV.out.rd hjl
      have hrg := hat _ (HV.out.rd.keep hF)
      have HRG := Lib.hid hrg.1
      have hgd : m.ps.getD j (0, 0) = m.ps[j] := by rw [List.getD_eq_getElem?_getD, List.getElem?_eq_getElem hjl]; rfl
      have hsb : Hid (stepB h s m.ps j = (pok h s m.ps[j] && !(((m.ps.take j).map (·.1)).contains m.ps[j].1) && !(((m.ps.take j).map (·.2)).contains m.ps[j].2))) := Lib.hid (by unfold stepB; rw [hgd])
      have HWF := Lib.hid (HPW.out _ (List.getElem_mem hjl))
      have HTK : Hid (m.ps.take (j + 1) = m.ps.take j ++ [m.ps[j]]) := Lib.hid (List.take_succ_eq_append_getElem hjl)
      have HL0 : Hid (∀ x ∈ (m.ps.take j).map (·.1), (Lit.int .i64 x).wf = true) := Lib.hid (fun x hx => by obtain ⟨y, hy, rfl⟩ := List.mem_map.1 hx; exact (HPW.out y (List.mem_of_mem_take hy)).1)
      have HL1 : Hid (∀ x ∈ (m.ps.take j).map (·.2), (Lit.int .i64 x).wf = true) := Lib.hid (fun x hx => by obtain ⟨y, hy, rfl⟩ := List.mem_map.1 hx; exact (HPW.out y (List.mem_of_mem_take hy)).2)
      have HLN : Hid (((m.ps.take j).map (·.1)).length < 1000000 ∧ ((m.ps.take j).map (·.2)).length < 1000000) := Lib.hid (by simp only [List.length_map, List.length_take]; omega)
      clear hat hrg hgd
      have HTA : Hid ((m.ps.take j).map (·.1) ++ [m.ps[j].1] = (m.ps.take (j + 1)).map (·.1) ∧ (m.ps.take j).map (·.2) ++ [m.ps[j].2] = (m.ps.take (j + 1)).map (·.2)) := Lib.hid (by rw [HTK.out, List.map_append, List.map_append]; exact ⟨rfl, rfl⟩)
      clear HTK
      generalize m.ps[j] = p at *
      obtain ⟨pf, pt⟩ := p
      generalize (m.ps.take j).map (·.1) = l0 at *
      generalize (m.ps.take j).map (·.2) = l1 at *
      have HST := Lib.hid hst
      have HZR := Lib.hid (Bk.new wr (.cells PZ2 69))
      have hlt00 := Lib.hid hi0.lt
      have hlt11 := Lib.hid hi1.lt
      have hf6 : Fr0 wr ((wr.alloc (.cells PZ2 69)).setRow wr.heap.size (PR (pf, pt)).toArray) := ArrKit.Fr.row (Fr.alloc (Fr.refl _ _) _) _ _ (.inl (Nat.le_refl _))
      have HB6 := Lib.hid (ArrKit.Bk.row HZR.out (PR (pf, pt)).toArray)
      have HF6 := Lib.hid (hF.then0 hf6)
      have HX6 := Lib.hid (hf6.keep hxb (fun h => h))
      have HM6 := Lib.hid (hf6.keep hmb (fun h => h))
      have HJ0 := Lib.hid (hi0.keep hf6 (fun h => h))
      have HJ1 := Lib.hid (hi1.keep hf6 (fun h => h))
      have hr0 := HJ0.out.look Tryd.underlying3 Tryd.underlying4 Tryd.underlying73 (zero_b _) HL0.out pf HWF.out.1
      have hr1 := HJ1.out.look Tryd.underlying3 Tryd.underlying4 Tryd.underlying73 (zero_b _) HL1.out pt HWF.out.2
      have HUS : Hid (∀ W, Calls Tryd.prog 39 #[.int .i64 pf, .int .i64 h] W fun e w' => e = .returned (.bool (usableB pf h)) ∧ w' = W) := Lib.hid (fun W => usable_calls pf h W HWF.out.1 (by omega))
      have d0 : ((wr.alloc (.cells PZ2 69)).setRow wr.heap.size (PR (pf, pt)).toArray).cell? ⟨wr.heap.size, 0, none⟩ = some (.int .i64 pf) := Bk.cell HB6.out 0
      have d1 : ((wr.alloc (.cells PZ2 69)).setRow wr.heap.size (PR (pf, pt)).toArray).cell? ⟨wr.heap.size, 1, none⟩ = some (.int .i64 pt) := Bk.cell HB6.out 1
      have d2 : ((wr.alloc (.cells PZ2 69)).setRow wr.heap.size (PR (pf, pt)).toArray).cell? ⟨bs, 0, none⟩ = some (.map (some m0)) := Bk.cell HM6.out 0
      have d3 : ((wr.alloc (.cells PZ2 69)).setRow wr.heap.size (PR (pf, pt)).toArray).cell? ⟨bs, 1, none⟩ = some (.map (some m1)) := Bk.cell HM6.out 1
      clear hst hi0 hi1 hxb hmb hF hf6
      unfold pok at hsb
      by_cases hu : usableB pf h = true
      case neg =>
        have hu : usableB pf h = false := by simpa using hu
        rw [hu] at HUS
        have HNO : Hid (stepB h s m.ps j = false) := Lib.hid (by rw [hsb.out, hu]; simp)
        clear hsb
        go_wp2_with (first | ((with_reducible show wpList _ _ _ ({ dst := _, op := Op.load 69 _, type := _, pos := _, after := _, guard := _ } :: _) _ _); refine wpList_load_mid rfl 69 _ rfl b2 (o2 + j * 2) rfl (PR (pf, pt)) _ HRG.out Tryd.underlying69 rfl (info_pr _) ?_) | ((with_reducible show wpList _ _ _ ({ dst := _, op := Op.store 69 _ _, type := _, pos := _, after := _, guard := _ } :: _) _ _); refine wpList_store_row rfl 69 _ _ rfl wr.heap.size (PR (pf, pt)).toArray rfl rfl 69 PZ2 HZR.out (info_pr2 _) rfl (PR_all _) ?_) | (go_at_call 39; (with_reducible refine (HUS.out _).mono ?_); rintro e w7 ⟨rfl, rfl⟩))
        go_ret
        exact ⟨by rw [all_no hjl HNO.out]; rfl, HF6.out⟩
      rw [hu] at HUS hsb
      by_cases ht1 : pt < 2 * h
      · have e1 : decide (pt < 2 * h) = true := decide_eq_true ht1
        have e2 : decide (2 * h ≤ pt) = false := decide_eq_false (by omega)
        have HNO : Hid (stepB h s m.ps j = false) := Lib.hid (by rw [hsb.out, e2]; simp)
        clear hsb
        go_wp2_with (first | ((with_reducible show wpList _ _ _ ({ dst := _, op := Op.load 69 _, type := _, pos := _, after := _, guard := _ } :: _) _ _); refine wpList_load_mid rfl 69 _ rfl b2 (o2 + j * 2) rfl (PR (pf, pt)) _ HRG.out Tryd.underlying69 rfl (info_pr _) ?_) | ((with_reducible show wpList _ _ _ ({ dst := _, op := Op.store 69 _ _, type := _, pos := _, after := _, guard := _ } :: _) _ _); refine wpList_store_row rfl 69 _ _ rfl wr.heap.size (PR (pf, pt)).toArray rfl rfl 69 PZ2 HZR.out (info_pr2 _) rfl (PR_all _) ?_) | (go_at_call 39; (with_reducible refine (HUS.out _).mono ?_); rintro e w7 ⟨rfl, rfl⟩))
        go_ret
        exact ⟨by rw [all_no hjl HNO.out]; rfl, HF6.out⟩
      have e1 : decide (pt < 2 * h) = false := decide_eq_false ht1
      have e2 : decide (2 * h ≤ pt) = true := decide_eq_true (by omega)
      rw [e2] at hsb
      by_cases ht2 : s ≤ pt
      · have e3 : decide (s ≤ pt) = true := decide_eq_true ht2
        have e4 : decide (pt < s) = false := decide_eq_false (by omega)
        have HNO : Hid (stepB h s m.ps j = false) := Lib.hid (by rw [hsb.out, e4]; simp)
        clear hsb
        go_wp2_with (first | ((with_reducible show wpList _ _ _ ({ dst := _, op := Op.load 69 _, type := _, pos := _, after := _, guard := _ } :: _) _ _); refine wpList_load_mid rfl 69 _ rfl b2 (o2 + j * 2) rfl (PR (pf, pt)) _ HRG.out Tryd.underlying69 rfl (info_pr _) ?_) | ((with_reducible show wpList _ _ _ ({ dst := _, op := Op.store 69 _ _, type := _, pos := _, after := _, guard := _ } :: _) _ _); refine wpList_store_row rfl 69 _ _ rfl wr.heap.size (PR (pf, pt)).toArray rfl rfl 69 PZ2 HZR.out (info_pr2 _) rfl (PR_all _) ?_) | (go_at_call 39; (with_reducible refine (HUS.out _).mono ?_); rintro e w7 ⟨rfl, rfl⟩))
        go_ret
        exact ⟨by rw [all_no hjl HNO.out]; rfl, HF6.out⟩
      have e3 : decide (s ≤ pt) = false := decide_eq_false ht2
      have e4 : decide (pt < s) = true := decide_eq_true (by omega)
      rw [e4] at hsb
      by_cases hc0 : l0.contains pf = true
      · rw [hc0] at hr0 hsb
        have HNO : Hid (stepB h s m.ps j = false) := Lib.hid (by rw [hsb.out]; simp)
        clear hsb
        go_wp2_with (first | ((with_reducible show wpList _ _ _ ({ dst := _, op := Op.load 69 _, type := _, pos := _, after := _, guard := _ } :: _) _ _); refine wpList_load_mid rfl 69 _ rfl b2 (o2 + j * 2) rfl (PR (pf, pt)) _ HRG.out Tryd.underlying69 rfl (info_pr _) ?_) | ((with_reducible show wpList _ _ _ ({ dst := _, op := Op.store 69 _ _, type := _, pos := _, after := _, guard := _ } :: _) _ _); refine wpList_store_row rfl 69 _ _ rfl wr.heap.size (PR (pf, pt)).toArray rfl rfl 69 PZ2 HZR.out (info_pr2 _) rfl (PR_all _) ?_) | (go_at_call 39; (with_reducible refine (HUS.out _).mono ?_); rintro e w7 ⟨rfl, rfl⟩))
        go_ret
        exact ⟨by rw [all_no hjl HNO.out]; rfl, HF6.out⟩
      have hc0 : l0.contains pf = false := by simpa using hc0
      rw [hc0] at hr0 hsb
      by_cases hc1 : l1.contains pt = true
      · rw [hc1] at hr1 hsb
        have HNO : Hid (stepB h s m.ps j = false) := Lib.hid (by rw [hsb.out]; simp)
        clear hsb
        go_wp2_with (first | ((with_reducible show wpList _ _ _ ({ dst := _, op := Op.load 69 _, type := _, pos := _, after := _, guard := _ } :: _) _ _); refine wpList_load_mid rfl 69 _ rfl b2 (o2 + j * 2) rfl (PR (pf, pt)) _ HRG.out Tryd.underlying69 rfl (info_pr _) ?_) | ((with_reducible show wpList _ _ _ ({ dst := _, op := Op.store 69 _ _, type := _, pos := _, after := _, guard := _ } :: _) _ _); refine wpList_store_row rfl 69 _ _ rfl wr.heap.size (PR (pf, pt)).toArray rfl rfl 69 PZ2 HZR.out (info_pr2 _) rfl (PR_all _) ?_) | (go_at_call 39; (with_reducible refine (HUS.out _).mono ?_); rintro e w7 ⟨rfl, rfl⟩))
        go_ret
        exact ⟨by rw [all_no hjl HNO.out]; rfl, HF6.out⟩
      have hc1 : l1.contains pt = false := by simpa using hc1
      rw [hc1] at hr1 hsb
      have HYES : Hid (stepB h s m.ps j = true) := Lib.hid (by rw [hsb.out]; rfl)
      clear hsb
      go_wp2_with (first | ((with_reducible show wpList _ _ _ ({ dst := _, op := Op.load 69 _, type := _, pos := _, after := _, guard := _ } :: _) _ _); refine wpList_load_mid rfl 69 _ rfl b2 (o2 + j * 2) rfl (PR (pf, pt)) _ HRG.out Tryd.underlying69 rfl (info_pr _) ?_) | ((with_reducible show wpList _ _ _ ({ dst := _, op := Op.store 69 _ _, type := _, pos := _, after := _, guard := _ } :: _) _ _); refine wpList_store_row rfl 69 _ _ rfl wr.heap.size (PR (pf, pt)).toArray rfl rfl 69 PZ2 HZR.out (info_pr2 _) rfl (PR_all _) ?_) | (go_at_call 39; (with_reducible refine (HUS.out _).mono ?_); rintro e w7 ⟨rfl, rfl⟩))
      have hlt0 := HJ0.out.lt
      have hg0 : m0 < wr.heap.size := by have := hlt00.out; omega
      have hg1 : m1 < wr.heap.size := by have := hlt11.out; omega
      have HSB : Hid (Bk ((wr.alloc (.cells PZ2 69)).setRow wr.heap.size (PR (pf, pt)).toArray).drew bs #[.map (some m0), .map (some m1)] 74 ∧ Bk ((wr.alloc (.cells PZ2 69)).setRow wr.heap.size (PR (pf, pt)).toArray).drew wr.heap.size (PR (pf, pt)).toArray 69) := Lib.hid ⟨HM6.out, HB6.out⟩
      have HD0 : Hid (IM ((wr.alloc (.cells PZ2 69)).setRow wr.heap.size (PR (pf, pt)).toArray).drew Tryd.prog 3 4 m0 l0) := Lib.hid HJ0.out
      have HD1 : Hid (IM ((wr.alloc (.cells PZ2 69)).setRow wr.heap.size (PR (pf, pt)).toArray).drew Tryd.prog 3 4 m1 l1) := Lib.hid HJ1.out
      have HDF : Hid (Fr0 w ((wr.alloc (.cells PZ2 69)).setRow wr.heap.size (PR (pf, pt)).toArray).drew) := Lib.hid (Fr.drew HF6.out)
      have HDX : Hid (Bk ((wr.alloc (.cells PZ2 69)).setRow wr.heap.size (PR (pf, pt)).toArray).drew w.heap.size X 24) := Lib.hid HX6.out
      have hw0 := HW0.out
      clear d0 d1 d2 d3 hr0 hr1
      generalize wr.heap.size = gp at *
      refine wp_region_noPanic ?_
      refine wp_region_held_drew (S := (fun W : World => Bk W bs #[.map (some m0), .map (some m1)] 74 ∧ Bk W gp (PR (pf, pt)).toArray 69)) (by kernel_rfl) (HSB.out) (fun hHeld0 => ?_)
      refine tk (i := 0) (v := .pointer (some ⟨bs, 0, none⟩)) rfl (Or.inl ⟨by kernel_rfl, fun w hSw => by go_simp⟩) hHeld0 ?_
      simp only [Act.put, zA, zB, zC, zD, zE, zF]
      refine tk (i := 1) (v := .map (some m0)) rfl (Or.inl ⟨by kernel_rfl, fun w hSw => by have hcl := (fun W h => Bk.cell h.1 0) w hSw; go_simp⟩) hHeld0 ?_
      simp only [Act.put, zA, zB, zC, zD, zE, zF]
      refine tk0 (i := 2) (v := .pointer (some ⟨gp, 0, none⟩)) rfl hHeld0 ?_
      simp only [Act.put, zA, zB, zC, zD, zE, zF]
      refine tk (i := 3) (v := .int .i64 pf) rfl (Or.inl ⟨by kernel_rfl, fun w hSw => by have hcl := (fun W h => (Bk.cell h.2 0).trans (PR_0 pf pt)) w hSw; go_simp⟩) hHeld0 ?_
      simp only [Act.put, zA, zB, zC, zD, zE, zF]
      refine tk (i := 4) (v := .pointer (some ⟨bs, 1, none⟩)) rfl (Or.inl ⟨by kernel_rfl, fun w hSw => by go_simp⟩) hHeld0 ?_
      simp only [Act.put, zA, zB, zC, zD, zE, zF]
      refine tk (i := 5) (v := .map (some m1)) rfl (Or.inl ⟨by kernel_rfl, fun w hSw => by have hcl := (fun W h => Bk.cell h.1 1) w hSw; go_simp⟩) hHeld0 ?_
      simp only [Act.put, zA, zB, zC, zD, zE, zF]
      refine tk0 (i := 6) (v := .pointer (some ⟨gp, 1, none⟩)) rfl hHeld0 ?_
      simp only [Act.put, zA, zB, zC, zD, zE, zF]
      refine tk (i := 7) (v := .int .i64 pt) rfl (Or.inl ⟨by kernel_rfl, fun w hSw => by have hcl := (fun W h => (Bk.cell h.2 1).trans (PR_1 pf pt)) w hSw; go_simp⟩) hHeld0 ?_
      simp only [Act.put, zA, zB, zC, zD, zE, zF]
      change wpAnyH _ _ _ _ _ 2 #[true, true, true, true, true, true, true, true, false, false] _ _
      refine wpAnyH_ready (rs := [8]) (by kernel_rfl) (by simp) ?_
      refine AllReadyH.cons rfl (fun K hK => ?_) AllReadyH.nil
      simp only [zA, zB, zC]
      refine (if_pos (by kernel_rfl)).mpr ?_
      obtain ⟨wy1, hr_, hi_, hf_⟩ := HD0.out.put Tryd.underlying3 Tryd.underlying4 Tryd.underlying73 pf HWF.out.1 HLN.out.1
      refine wp_mapUpdate_run _ _ _ 73 rfl (.map (some m0)) (.int .i64 pf) (.bool true) rfl rfl rfl hr_ ?_
      refine hK.out _ _ (⟨hf_.keep hHeld0.1 (by omega), hf_.keep hHeld0.2 (by omega)⟩) (fun hHeld1 => ?_)
      clear hK K hHeld0
      have HE0 := Lib.hid hi_
      have HE1 := Lib.hid (HD1.out.keep hf_ (by omega))
      have HEF : Hid (Fr0 w wy1) := Lib.hid (Fr.newG HDF.out hf_ (by omega))
      have HEX := Lib.hid (hf_.keep HDX.out (by omega))
      clear hr_ hi_ hf_
      change wpAnyH _ _ _ _ _ 1 #[true, true, true, true, true, true, true, true, true, false] _ _
      refine wpAnyH_ready (rs := [9]) (by kernel_rfl) (by simp) ?_
      refine AllReadyH.cons rfl (fun K hK => ?_) AllReadyH.nil
      simp only [zA, zB, zC]
      refine (if_pos (by kernel_rfl)).mpr ?_
      obtain ⟨wy2, hr_, hi_, hf_⟩ := HE1.out.put Tryd.underlying3 Tryd.underlying4 Tryd.underlying73 pt HWF.out.2 HLN.out.2
      refine wp_mapUpdate_run _ _ _ 73 rfl (.map (some m1)) (.int .i64 pt) (.bool true) rfl rfl rfl hr_ ?_
      refine hK.out _ _ (⟨hf_.keep hHeld1.1 (by omega), hf_.keep hHeld1.2 (by omega)⟩) (fun hHeld2 => ?_)
      clear hK K hHeld1
      have HG1 := Lib.hid hi_
      have HG0 := Lib.hid (HE0.out.keep hf_ (by omega))
      have HGF : Hid (Fr0 w wy2) := Lib.hid (Fr.newG HEF.out hf_ (by omega))
      have HGX := Lib.hid (hf_.keep HEX.out (by omega))
      clear hr_ hi_ hf_
      change wpAnyH _ _ _ _ _ 0 #[true, true, true, true, true, true, true, true, true, true] _ _
      refine wpAnyH_done (by kernel_rfl) ?_ _
      refine NoPanic.normal ?_
      have HEND := Lib.hid hHeld2
      clear hHeld2
      go_wp2
      go_roundw
      case rel => exact ⟨j + 1, by omega, by go_num, fun i hi => by
          rcases Nat.lt_or_ge i j with h | h
          · exact HST.out i h
          · obtain rfl : i = j := by omega
            exact HYES.out, by rw [← HTA.out.1]; exact HG0.out, by rw [← HTA.out.2]; exact HG1.out, HGX.out, HEND.out.1, HGF.out⟩
      case measure => simp [intOf]; omega
    · clear hi0 hi1 hmb hxb
      have hje : j = m.ps.length := by omega
      subst hje
      have HST := Lib.hid hst
      have HF := Lib.hid hF
      clear hst hF
      go_wp2
      go_ret
      exact ⟨by rw [all_yes HST.out]; rfl, HF.out⟩

set_option maxHeartbeats 2000000 in
set_option maxRecDepth 100000 in
theorem right_calls (m : Rm) (a : Option Addr) (c : Nat) (s : Int) (w : World) (hok : m.ok) (hv : RV w m a c) (hs : (Lit.int .i64 s).wf = true) : Calls Tryd.prog 13 #[.agg (rval m a c), .int .i64 s] w fun e w' => e = .returned (.bool (tabB m s)) ∧ Fr0 w w' := by
  by_cases h : half s = 0 ∨ m.gen < 0 ∨ 4611686018427387904 < m.gen ∨ 20 < m.ps.length
  · have e : tabB m s = false := by
      unfold tabB
      rcases h with h | h | h | h
      · simp [h]
      · rw [decide_eq_false (p := 0 ≤ m.gen) (by omega)]; simp
      · rw [decide_eq_false (p := m.gen ≤ 4611686018427387904) (by omega)]; simp
      · rw [decide_eq_false (p := m.ps.length ≤ 20) (by omega)]; simp
    rw [e]
    exact right_no m a c s w hs h
  · have h1 : half s ≠ 0 := fun e => h (.inl e)
    have e : tabB m s = (List.range m.ps.length).all (stepB (half s) s m.ps) := by
      unfold tabB
      rw [decide_eq_true h1, decide_eq_true (p := 0 ≤ m.gen) (by omega), decide_eq_true (p := m.gen ≤ 4611686018427387904) (by omega), decide_eq_true (p := m.ps.length ≤ 20) (by omega)]
      simp
    rw [e]
    exact right_loop m a c s w hok hv hs h1 (by omega) (by omega) (by omega)

end Go.Proofs.YtlleandelcjhjaaDoor.RmRight
namespace Go.Proofs.YtlleandelcjhjaaDoor.RmRRight
open Go Go.RowKit Go.Proofs.YtlleandelcjhjaaDoor.K Go.Proofs.YtlleandelcjhjaaDoor.EqKit Go.Proofs.YtlleandelcjhjaaDoor.ArrKit Go.Proofs.YtlleandelcjhjaaDoor.HeldKit Go.Proofs.YtlleandelcjhjaaDoor.GKit Go.Proofs.YtlleandelcjhjaaDoor.GRow Go.Proofs.YtlleandelcjhjaaDoor.DiskKit Go.Proofs.YtlleandelcjhjaaDoor.RmKit Go.Proofs.YtlleandelcjhjaaDoor.MapKit Go.Proofs.YtlleandelcjhjaaDoor.RmRight
end Go.Proofs.YtlleandelcjhjaaDoor.RmRRight
