/- The theorems that the claim uses, text behind text (part 15). -/
import Derived.Test.YtmkmpfnadcmcoaaGreatDoorYac
import Derived.Test.YtmkmpfnadcmcoaaGreatDoorYag
import Derived.Test.YtmkmpfnadcmcoaaGreatDoorYan
set_option maxRecDepth 100000
set_option maxHeartbeats 8000000
set_option linter.unusedVariables false
set_option linter.unusedSimpArgs false
namespace Go.Proofs.YtmkmpfnadcmcoaaGreatDoor.DiskBack
open Go Go.RowKit K EqKit ArrKit HeldKit GKit GRow DiskKit RfKit DiskAsk DiskForm DiskAct DiskNew DiskCopy DiskRRead Go.Shelf
attribute [local go_sem] Oper.semAt_some
abbrev WX := { x : Nat × Wri // x.2.ok }
theorem getD_ok {C : List Wri} (h : ∀ x ∈ C, x.ok) (i : Nat) : (C.getD i ⟨0, Z128⟩).ok := by
 rw [List.getD_eq_getElem?_getD]
 by_cases hi : i < C.length
 ·rw [List.getElem?_eq_getElem hi];exact h _ (List.getElem_mem hi)
 ·rw [List.getElem?_eq_none (by omega)];exact ⟨by simp [Z128], by decide⟩
def fB (C : List Wri) (hok : ∀ x ∈ C, x.ok) (j : Nat) : WX := ⟨(C.length - 1 - j, C.getD (C.length - 1 - j) ⟨0, Z128⟩), getD_ok hok _⟩
def encB (x : WX) : Array Value := #[.int .i64 (x.1.1 : Int), .agg x.1.2.cells.toArray]
def BRel (C : List Wri) (hok : ∀ x ∈ C, x.ok) (J : List WX → World → Prop) (n₀ : Nat) (W : World) (i : Value) (wr : World) : Prop :=
 (∃ k m : Nat, k + m + 1 = C.length ∧ i = .int .i64 m ∧ J (upto (fB C hok) k) wr ∧ Below n₀ W wr) ∨ (i = .int .i64 (-1) ∧ J (upto (fB C hok) C.length) wr ∧ Below n₀ W wr)
theorem BRel.start (C : List Wri) (hok : ∀ x ∈ C, x.ok) (J : List WX → World → Prop) (n₀ : Nat) (W : World) (h0 : J [] W) : BRel C hok J n₀ W (.int .i64 ((C.length : Int) - 1)) W := by
 cases h : C.length with
 | zero => exact .inr ⟨rfl, by rw [h];exact h0, Below.refl _ _⟩
 | succ m => exact .inl ⟨0, m, by omega, by rw [show ((m + 1 : Nat) : Int) - 1 = (m : Int) by omega], h0, Below.refl _ _⟩
theorem BRel.next {C : List Wri} {hok : ∀ x ∈ C, x.ok} {J : List WX → World → Prop} {n₀ : Nat} {W wr : World} {k m : Nat} (hk : k + m + 1 = C.length) (hJ : J (upto (fB C hok) k ++ [fB C hok k]) wr) (hB : Below n₀ W wr) : BRel C hok J n₀ W (.int .i64 ((m : Int) - 1)) wr := by
 rw [← upto_succ] at hJ
 cases m with
 | zero => exact .inr ⟨rfl, by rw [show C.length = k + 1 by omega];exact hJ, hB⟩
 | succ m => exact .inl ⟨k + 1, m, by omega, by rw [show ((m + 1 : Nat) : Int) - 1 = (m : Int) by omega], hJ, hB⟩
theorem fB_at {C : List Wri} (hok : ∀ x ∈ C, x.ok) {k m : Nat} (hk : k + m + 1 = C.length) : fB C hok k = ⟨(m, C[m]), hok _ (List.getElem_mem (by omega))⟩ := by
 have : C.length - 1 - k = m := by omega
 apply Subtype.ext
 show (C.length - 1 - k, C.getD (C.length - 1 - k) ⟨0, Z128⟩) = _
 rw [this, List.getD_eq_getElem?_getD, List.getElem?_eq_getElem (by omega)];rfl
theorem back1_in (n : Nat) (hn : 1 ≤ n) (l Bs n₀ : Nat) (ca : Option Addr) (cc : Nat) (C : List Wri) (hok : ∀ x ∈ C, x.ok) (hcn : C.length ≤ cc) (hcm : cc ≤ 9223372036854775807) (J Jx : List WX → World → Prop)
  (hY : ∀ pre x W, J pre W → pre.length < C.length → YieldAt Fence.wide (n - 1) Tryz.prog l (encB x) W fun e W' =>
   (e = .returned (.bool true) ∧ J (pre ++ [x]) W' ∧ Below n₀ W W') ∨ (e = .returned (.bool false) ∧ Jx (pre ++ [x]) W'))
  (W : World) (hBs : W.cell? ⟨Bs, 0, none⟩ = some (.slice ca C.length cc)) (hB0 : Bs < n₀) (hrc : RdC W ca C) (hcb : ∀ a, ca = some a → C ≠ [] → a.block < n₀) (h0 : J [] W) :
  CallsIn Fence.wide n Tryz.prog 101 #[.func (.yield l) #[] #[], .pointer (some ⟨Bs, 0, none⟩)] W fun e W' => (∃ v, e = .returned v) ∧
   ((∃ ys, ys = upto (fB C hok) C.length ∧ J ys W') ∨ (∃ pre, (∃ k, k ≤ C.length ∧ pre = upto (fB C hok) k) ∧ Jx pre W')) := by
 have HOK := jq7 hok
 have HRC := jq7 hrc
 have HCB := jq7 hcb
 clear hrc hcb
 refine callsIn_of_wp Tryz.func101 rfl trivial ?_ rfl
 simp only [Tryz.ntmps101, List.size_toArray, List.length_cons, List.length_nil, Nat.reduceAdd, Nat.reduceSub, Array.replicate_succ, Array.replicate_zero, List.push_toArray, List.append_toArray, List.nil_append, List.cons_append]
 gi_wp2
 gi_loopw [3] (fun i wr => BRel C hok J n₀ W i wr) (fun i _ => (intOf i + 1).toNat)
 case atStart => exact BRel.start C hok J n₀ W h0
 case round =>
  rcases hrel with ⟨k, m, hk, rfl, hJs, hnx⟩ | ⟨rfl, hJs, hnx⟩
  ·have hm : m < C.length := by omega
   have hfb : fB C hok k = ⟨(m, C[m]'hm), hok _ (List.getElem_mem hm)⟩ := fB_at hok hk
   obtain ⟨b, o, rfl, hrg⟩ := HRC.o m hm
   have hbn : b < n₀ := HCB.o _ rfl (by intro e;subst e;simp at hm)
   have HRG : Jq7 (wr.rangeAt b (o + m * 129) C[m].cells) := jq7 (fun j u hj => (hnx.cell (p := ⟨b, _, none⟩) hbn).trans (hrg j u hj))
   have HX := jq7 (HOK.o _ (List.getElem_mem hm))
   have HIX : Jq7 ((Tryz.prog.info? 68).map (·.size) = some C[m].cells.length) := jq7 (by rw [Wri.leng HX.o, info_w])
   have hbs : wr.cell? ⟨Bs, 0, none⟩ = some (.slice (some ⟨b, o, none⟩) C.length cc) := (hnx.cell (p := ⟨Bs, 0, none⟩) hB0).trans hBs
   obtain ⟨fn, tmps, assign, body, hy, hR⟩ := hY _ ⟨(m, C[m]'hm), hok _ (List.getElem_mem hm)⟩ wr hJs (by rw [upto_length];omega)
   simp only [encB] at hy
   have HK := jq7 hk
   have HFB := jq7 hfb
   have HNX := jq7 hnx
   clear hk hfb hrg hnx hBs
   gi_wp2_with (first | ((with_reducible show wpListIn _ _ _ _ _ ({ dst := _, op := Op.load 68 _, type := _, pos := _, after := _, guard := _ } :: _) _ _);refine wpListIn_load_mid rfl 68 _ rfl b (o + m * 129) rfl C[m].cells _ HRG.o Tryz.underlying68 rfl HIX.o ?_))
   refine hR.mono ?_
   rintro e W3 (⟨rfl, hJ3, hk3⟩ | ⟨rfl, hJx3⟩)
   ·have HJ3 := jq7 hJ3
    have HK3 := jq7 hk3
    clear hJ3 hk3
    gi_wp2
    go_roundw
    case rel => exact BRel.next HK.o (by rw [HFB.o];exact HJ3.o) (HNX.o.trans HK3.o)
    case measure => simp [intOf] <;> omega
   ·gi_wp2
    refine bodyPost_ret (results_none rfl _ _ _) rfl ?_
    have := HK.o
    exact ⟨⟨_, rfl⟩, .inr ⟨_, ⟨k + 1, by omega, by rw [upto_succ, HFB.o]⟩, hJx3⟩⟩
  ·gi_wp2
   go_end0
   exact ⟨⟨_, rfl⟩, .inl ⟨_, rfl, hJs⟩⟩
theorem back_in (n : Nat) (a : Option Addr) (len cap : Nat) (w : World) :
  Calls Tryz.prog 90 #[.slice a len cap] w fun e w' => e = .returned (.func (.func 101) #[] #[.pointer (some ⟨w.heap.size, 0, none⟩)]) ∧ w' = w.alloc (.cells #[.slice a len cap] 23) := by
 have hmf : ∀ (fn : Fn) (first cap : Array Value) (W : World), (Instr.makeFunc fn first cap).run Tryz.prog W = .ok (.func fn first cap) W := fun _ _ _ _ => rfl
 go_enter Tryz.func90, Tryz.ntmps90
 go_wp2
 go_ret
 exact ⟨rfl, rfl⟩
theorem back_stops (n : Nat) (hn : 1 ≤ n) (Bs n₀ : Nat) (ca : Option Addr) (cc : Nat) (C : List Wri) (hok : ∀ x ∈ C, x.ok) (hcn : C.length ≤ cc) (hcm : cc ≤ 9223372036854775807) (w : World) (hBs : Bs < n₀) (hn₀ : n₀ ≤ w.heap.size)
  (hc : w.cell? ⟨Bs, 0, none⟩ = some (.slice ca C.length cc)) (hrc : RdC w ca C) (hcb : ∀ a, ca = some a → C ≠ [] → a.block < n₀) :
  SeqStopsK Fence.wide n Tryz.prog 101 #[.pointer (some ⟨Bs, 0, none⟩)] encB (Below n₀) (fun ys => ys = upto (fB C hok) C.length) (fun pre => ∃ k, k ≤ C.length ∧ pre = upto (fB C hok) k) C.length w := fun l J Jx W hW _ _ hY h0 => by
 have hW' := hW.mono hn₀
 have hc' := (hW'.cell (p := ⟨Bs, 0, none⟩) hBs).trans hc
 refine back1_in n hn l Bs n₀ ca cc C hok hcn hcm J Jx hY W hc' hBs (RdG.keep hrc ⟨hW.os, hW.tape, hW.output, hW.size, fun i hi _ => hW.block i hi⟩) hcb h0

end Go.Proofs.YtmkmpfnadcmcoaaGreatDoor.DiskBack
namespace Go.Proofs.YtmkmpfnadcmcoaaGreatDoor.DiskTwins
open Go Go.RowKit K EqKit ArrKit HeldKit GKit GRow DiskKit DiskAsk DiskForm DiskAct DiskNew DiskCopy
theorem clip_calls (ca : Option Addr) (n cc : Nat) (w : World) (hn : n ≤ cc) (hm : cc ≤ 9223372036854775807) : Calls Tryz.prog 82 #[.slice ca n cc] w fun e w' => e = .returned (.slice ca n n) ∧ w = w' := by
 cases ca with
 | none =>
  go_enter Tryz.func82, Tryz.ntmps82
  go_wp2
  go_ret
  exact ⟨rfl, rfl⟩
 | some x =>
  go_enter Tryz.func82, Tryz.ntmps82
  go_wp2
  go_ret
  exact ⟨rfl, rfl⟩
theorem DZ_no : ∀ (j : Nat) (x : Value), DZ[j]? = some x → ∀ v : UInt8, x ≠ B v := dc_no _ _ _ _ (by simp [B]) (by simp [B])

end Go.Proofs.YtmkmpfnadcmcoaaGreatDoor.DiskTwins
