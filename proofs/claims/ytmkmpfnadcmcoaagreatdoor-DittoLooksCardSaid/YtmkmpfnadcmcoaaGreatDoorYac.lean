/- The theorems that the claim uses, text behind text (part 3). -/
import Derived.Test.YtmkmpfnadcmcoaaGreatDoorYab
import Derived.Laws.MakeOwn
import Derived.WalkSpells
set_option maxRecDepth 100000
set_option maxHeartbeats 8000000
set_option linter.unusedVariables false
set_option linter.unusedSimpArgs false
namespace Go.Proofs.YtmkmpfnadcmcoaaGreatDoor.DiskAct
open Go Go.RowKit K EqKit ArrKit HeldKit GKit GRow DiskKit DiskAsk DiskForm
theorem DAt.setF {w : World} {p : Nat} {d : Dk} {sa : Option Addr} {sc : Nat} {ca : Option Addr} {cc : Nat} (h : DAt w p d sa sc ca cc) (hok : d.ok) (f : Int) : DAt (w.setCell ⟨p, 2, none⟩ (.int .i64 f)) p { d with fuse := f } sa sc ca cc :=
 ⟨Bk.set h.blk 2 _, by
  have := h.v.past hok (Fr.set (Fr.refl (fun i => i = p) w) ⟨p, 2, none⟩ (.int .i64 f) (.inr rfl)) h.blk (dval_no _ _ _ _ _)
  exact ⟨this.rs, this.rc, this.sn, this.sm, this.cn, this.cm⟩⟩
theorem DAt.setDn {w : World} {p : Nat} {d : Dk} {sa : Option Addr} {sc : Nat} {ca : Option Addr} {cc : Nat} (h : DAt w p d sa sc ca cc) (hok : d.ok) (b : Bool) : DAt (w.setCell ⟨p, 3, none⟩ (.bool b)) p { d with down := b } sa sc ca cc :=
 ⟨Bk.set h.blk 3 _, by
  have := h.v.past hok (Fr.set (Fr.refl (fun i => i = p) w) ⟨p, 3, none⟩ (.bool b) (.inr rfl)) h.blk (dval_no _ _ _ _ _)
  exact ⟨this.rs, this.rc, this.sn, this.sm, this.cn, this.cm⟩⟩
structure Aft (w w' : World) (p : Nat) (d : Dk) (sa : Option Addr) (sc : Nat) (ca : Option Addr) (cc : Nat) : Prop where
 at_ : DAt w' p d sa sc ca cc
 fr : Fr (fun i => i = p) w w'
structure Now (w w' : World) (p : Nat) (d : Dk) : Prop where
 at_ : DIn w' p d
 fr : Fr (fun i => i = p) w w'
theorem Aft.now {w w' : World} {p : Nat} {d : Dk} {sa : Option Addr} {sc : Nat} {ca : Option Addr} {cc : Nat} (h : Aft w w' p d sa sc ca cc) : Now w w' p d := ⟨⟨sa, sc, ca, cc, h.at_⟩, h.fr⟩
theorem actD_ok {d : Dk} (h : d.ok) : (actD d).ok := by
 unfold actD
 have hf := h.f
 simp [Lit.wf, IntKind.min, IntKind.max, IntKind.signed, IntKind.bits] at hf
 repeat' split
 ·exact h
 ·exact ⟨h.s, h.c, h.f⟩
 ·refine ⟨h.s, h.c, ?_⟩
  simp [Lit.wf, IntKind.min, IntKind.max, IntKind.signed, IntKind.bits]
  omega
 ·exact h
theorem actD_S (d : Dk) : (actD d).S = d.S := by unfold actD;split;rfl;split;rfl;split <;> rfl
theorem actD_C (d : Dk) : (actD d).C = d.C := by unfold actD;split;rfl;split;rfl;split <;> rfl

theorem spend_down (p : Nat) (d : Dk) (sa : Option Addr) (sc : Nat) (ca : Option Addr) (cc : Nat) (w : World) (hok : d.ok) (hv : DAt w p d sa sc ca cc) (hd : d.down = true) : Calls Tryz.prog 33 #[.pointer (some ⟨p, 0, none⟩)] w fun e w' => e = .returned (.int .i64 3) ∧ Aft w w' p d sa sc ca cc := by
 have q2 : w.cell? ⟨p, 2, none⟩ = some (.int .i64 d.fuse) := Bk.cell hv.blk 2
 have q3 : w.cell? ⟨p, 3, none⟩ = some (.bool d.down) := Bk.cell hv.blk 3
 have f2 := Bk.free hv.blk 2
 have f3 := Bk.free hv.blk 3
 have HV := jq7 hv
 have HOK := jq7 hok
 have HDD := jq7 hd
 rw [hd] at q3
 clear hv hok hd
 go_enter Tryz.func33, Tryz.ntmps33
 go_wp2
 go_ret
 exact ⟨rfl, HV.o, Fr.refl _ _⟩

theorem spend_zero (p : Nat) (d : Dk) (sa : Option Addr) (sc : Nat) (ca : Option Addr) (cc : Nat) (w : World) (hok : d.ok) (hv : DAt w p d sa sc ca cc) (hd : d.down = false) (hf : (d.fuse == 0) = true) : Calls Tryz.prog 33 #[.pointer (some ⟨p, 0, none⟩)] w fun e w' => e = .returned (.int .i64 3) ∧ Aft w w' p { d with down := true } sa sc ca cc := by
 have q2 : w.cell? ⟨p, 2, none⟩ = some (.int .i64 d.fuse) := Bk.cell hv.blk 2
 have q3 : w.cell? ⟨p, 3, none⟩ = some (.bool d.down) := Bk.cell hv.blk 3
 have f2 := Bk.free hv.blk 2
 have f3 := Bk.free hv.blk 3
 have HV := jq7 hv
 have HOK := jq7 hok
 have HDD := jq7 hd
 rw [hd] at q3
 clear hv hok hd
 go_enter Tryz.func33, Tryz.ntmps33
 go_wp2
 go_ret
 exact ⟨rfl, DAt.setDn HV.o HOK.o true, Fr.set (Fr.refl _ _) _ _ (.inr rfl)⟩

theorem spend_pos (p : Nat) (d : Dk) (sa : Option Addr) (sc : Nat) (ca : Option Addr) (cc : Nat) (w : World) (hok : d.ok) (hv : DAt w p d sa sc ca cc) (hd : d.down = false) (hf : 0 < d.fuse) : Calls Tryz.prog 33 #[.pointer (some ⟨p, 0, none⟩)] w fun e w' => e = .returned (.int .i64 0) ∧ Aft w w' p { d with fuse := d.fuse - 1 } sa sc ca cc := by
 have c0 : (d.fuse == 0) = false := by simp;omega
 have hw := hok.f
 simp [Lit.wf, IntKind.min, IntKind.max, IntKind.signed, IntKind.bits] at hw
 obtain ⟨hw1, hw2⟩ := hw
 have q2 : w.cell? ⟨p, 2, none⟩ = some (.int .i64 d.fuse) := Bk.cell hv.blk 2
 have q3 : w.cell? ⟨p, 3, none⟩ = some (.bool d.down) := Bk.cell hv.blk 3
 have f2 := Bk.free hv.blk 2
 have f3 := Bk.free hv.blk 3
 have HV := jq7 hv
 have HOK := jq7 hok
 have HDD := jq7 hd
 rw [hd] at q3
 clear hv hok hd
 go_enter Tryz.func33, Tryz.ntmps33
 go_wp2
 go_ret
 exact ⟨rfl, DAt.setF HV.o HOK.o (d.fuse - 1), Fr.set (Fr.refl _ _) _ _ (.inr rfl)⟩

theorem spend_neg (p : Nat) (d : Dk) (sa : Option Addr) (sc : Nat) (ca : Option Addr) (cc : Nat) (w : World) (hok : d.ok) (hv : DAt w p d sa sc ca cc) (hd : d.down = false) (hf : d.fuse < 0) : Calls Tryz.prog 33 #[.pointer (some ⟨p, 0, none⟩)] w fun e w' => e = .returned (.int .i64 0) ∧ Aft w w' p d sa sc ca cc := by
 have c0 : (d.fuse == 0) = false := by simp;omega
 have c1 : decide (0 < d.fuse) = false := decide_eq_false (by omega)
 have q2 : w.cell? ⟨p, 2, none⟩ = some (.int .i64 d.fuse) := Bk.cell hv.blk 2
 have q3 : w.cell? ⟨p, 3, none⟩ = some (.bool d.down) := Bk.cell hv.blk 3
 have f2 := Bk.free hv.blk 2
 have f3 := Bk.free hv.blk 3
 have HV := jq7 hv
 have HOK := jq7 hok
 have HDD := jq7 hd
 rw [hd] at q3
 clear hv hok hd
 go_enter Tryz.func33, Tryz.ntmps33
 go_wp2
 go_ret
 exact ⟨rfl, HV.o, Fr.refl _ _⟩

theorem spend_calls (p : Nat) (d : Dk) (sa : Option Addr) (sc : Nat) (ca : Option Addr) (cc : Nat) (w : World) (hok : d.ok) (hv : DAt w p d sa sc ca cc) : Calls Tryz.prog 33 #[.pointer (some ⟨p, 0, none⟩)] w fun e w' => e = .returned (.int .i64 (actE d)) ∧ Aft w w' p (actD d) sa sc ca cc := by
 unfold actE actD
 cases hd : d.down with
 | true =>
  rw [if_pos (.inl rfl), if_pos rfl]
  exact spend_down p d sa sc ca cc w hok hv hd
 | false =>
  rw [if_neg (by simp : ¬ (false = true)) (t := d)]
  by_cases h0 : d.fuse = 0
  ·rw [if_pos (.inr h0), if_pos h0]
   exact spend_zero p d sa sc ca cc w hok hv hd (by simp [h0])
  ·rw [if_neg (by simp [h0]), if_neg h0]
   by_cases h1 : 0 < d.fuse
   ·rw [if_pos h1];have h2 := spend_pos p d sa sc ca cc w hok hv hd h1;rw [hd] at h2;exact h2
   ·rw [if_neg h1];exact spend_neg p d sa sc ca cc w hok hv hd (by omega)

theorem act_down0 (p : Nat) (d : Dk) (sa : Option Addr) (sc : Nat) (ca : Option Addr) (cc : Nat) (w : World) (hok : d.ok) (hv : DAt w p d sa sc ca cc) (hd : d.down = true) (hf : (d.fuse == 0) = true) : Calls Tryz.prog 94 #[.pointer (some ⟨p, 0, none⟩)] w fun e w' => e = .returned (.int .i64 3) ∧ Aft w w' p d sa sc ca cc := by
 have q2 : w.cell? ⟨p, 2, none⟩ = some (.int .i64 d.fuse) := Bk.cell hv.blk 2
 have q3 : w.cell? ⟨p, 3, none⟩ = some (.bool d.down) := Bk.cell hv.blk 3
 have f2 := Bk.free hv.blk 2
 have f3 := Bk.free hv.blk 3
 have HV := jq7 hv
 have HOK := jq7 hok
 have HDD := jq7 hd
 rw [hd] at q3
 clear hv hok hd
 go_enter Tryz.func94, Tryz.ntmps94
 go_wp2
 go_ret
 exact ⟨rfl, by have := DAt.setDn HV.o HOK.o true;rwa [show ({ d with down := true } : Dk) = d by rw [← HDD.o]] at this, Fr.set (Fr.refl _ _) _ _ (.inr rfl)⟩

theorem act_down1 (p : Nat) (d : Dk) (sa : Option Addr) (sc : Nat) (ca : Option Addr) (cc : Nat) (w : World) (hok : d.ok) (hv : DAt w p d sa sc ca cc) (hd : d.down = true) (hf : (d.fuse == 0) = false) : Calls Tryz.prog 94 #[.pointer (some ⟨p, 0, none⟩)] w fun e w' => e = .returned (.int .i64 3) ∧ Aft w w' p d sa sc ca cc := by
 have q2 : w.cell? ⟨p, 2, none⟩ = some (.int .i64 d.fuse) := Bk.cell hv.blk 2
 have q3 : w.cell? ⟨p, 3, none⟩ = some (.bool d.down) := Bk.cell hv.blk 3
 have f2 := Bk.free hv.blk 2
 have f3 := Bk.free hv.blk 3
 have HV := jq7 hv
 have HOK := jq7 hok
 have HDD := jq7 hd
 rw [hd] at q3
 clear hv hok hd
 go_enter Tryz.func94, Tryz.ntmps94
 go_wp2
 go_ret
 exact ⟨rfl, HV.o, Fr.refl _ _⟩

theorem act_zero (p : Nat) (d : Dk) (sa : Option Addr) (sc : Nat) (ca : Option Addr) (cc : Nat) (w : World) (hok : d.ok) (hv : DAt w p d sa sc ca cc) (hd : d.down = false) (hf : (d.fuse == 0) = true) : Calls Tryz.prog 94 #[.pointer (some ⟨p, 0, none⟩)] w fun e w' => e = .returned (.int .i64 3) ∧ Aft w w' p { d with down := true } sa sc ca cc := by
 have q2 : w.cell? ⟨p, 2, none⟩ = some (.int .i64 d.fuse) := Bk.cell hv.blk 2
 have q3 : w.cell? ⟨p, 3, none⟩ = some (.bool d.down) := Bk.cell hv.blk 3
 have f2 := Bk.free hv.blk 2
 have f3 := Bk.free hv.blk 3
 have HV := jq7 hv
 have HOK := jq7 hok
 have HDD := jq7 hd
 rw [hd] at q3
 clear hv hok hd
 go_enter Tryz.func94, Tryz.ntmps94
 go_wp2
 go_ret
 exact ⟨rfl, DAt.setDn HV.o HOK.o true, Fr.set (Fr.refl _ _) _ _ (.inr rfl)⟩

theorem act_pos (p : Nat) (d : Dk) (sa : Option Addr) (sc : Nat) (ca : Option Addr) (cc : Nat) (w : World) (hok : d.ok) (hv : DAt w p d sa sc ca cc) (hd : d.down = false) (hf : 0 < d.fuse) : Calls Tryz.prog 94 #[.pointer (some ⟨p, 0, none⟩)] w fun e w' => e = .returned (.int .i64 0) ∧ Aft w w' p { d with fuse := d.fuse - 1 } sa sc ca cc := by
 have c0 : (d.fuse == 0) = false := by simp;omega
 have hw := hok.f
 simp [Lit.wf, IntKind.min, IntKind.max, IntKind.signed, IntKind.bits] at hw
 obtain ⟨hw1, hw2⟩ := hw
 have q2 : w.cell? ⟨p, 2, none⟩ = some (.int .i64 d.fuse) := Bk.cell hv.blk 2
 have q3 : w.cell? ⟨p, 3, none⟩ = some (.bool d.down) := Bk.cell hv.blk 3
 have f2 := Bk.free hv.blk 2
 have f3 := Bk.free hv.blk 3
 have HV := jq7 hv
 have HOK := jq7 hok
 have HDD := jq7 hd
 rw [hd] at q3
 clear hv hok hd
 go_enter Tryz.func94, Tryz.ntmps94
 go_wp2
 go_ret
 exact ⟨rfl, DAt.setF HV.o HOK.o (d.fuse - 1), Fr.set (Fr.refl _ _) _ _ (.inr rfl)⟩

theorem act_neg (p : Nat) (d : Dk) (sa : Option Addr) (sc : Nat) (ca : Option Addr) (cc : Nat) (w : World) (hok : d.ok) (hv : DAt w p d sa sc ca cc) (hd : d.down = false) (hf : d.fuse < 0) : Calls Tryz.prog 94 #[.pointer (some ⟨p, 0, none⟩)] w fun e w' => e = .returned (.int .i64 0) ∧ Aft w w' p d sa sc ca cc := by
 have c0 : (d.fuse == 0) = false := by simp;omega
 have c1 : decide (0 < d.fuse) = false := decide_eq_false (by omega)
 have q2 : w.cell? ⟨p, 2, none⟩ = some (.int .i64 d.fuse) := Bk.cell hv.blk 2
 have q3 : w.cell? ⟨p, 3, none⟩ = some (.bool d.down) := Bk.cell hv.blk 3
 have f2 := Bk.free hv.blk 2
 have f3 := Bk.free hv.blk 3
 have HV := jq7 hv
 have HOK := jq7 hok
 have HDD := jq7 hd
 rw [hd] at q3
 clear hv hok hd
 go_enter Tryz.func94, Tryz.ntmps94
 go_wp2
 go_ret
 exact ⟨rfl, HV.o, Fr.refl _ _⟩

theorem act_calls (p : Nat) (d : Dk) (sa : Option Addr) (sc : Nat) (ca : Option Addr) (cc : Nat) (w : World) (hok : d.ok) (hv : DAt w p d sa sc ca cc) : Calls Tryz.prog 94 #[.pointer (some ⟨p, 0, none⟩)] w fun e w' => e = .returned (.int .i64 (actE d)) ∧ Aft w w' p (actD d) sa sc ca cc := by
 unfold actE actD
 cases hd : d.down with
 | true =>
  rw [if_pos (.inl rfl), if_pos rfl]
  cases hf : (d.fuse == 0) with
  | true => exact act_down0 p d sa sc ca cc w hok hv hd hf
  | false => exact act_down1 p d sa sc ca cc w hok hv hd hf
 | false =>
  rw [if_neg (by simp : ¬ (false = true)) (t := d)]
  by_cases h0 : d.fuse = 0
  ·rw [if_pos (.inr h0), if_pos h0]
   exact act_zero p d sa sc ca cc w hok hv hd (by simp [h0])
  ·rw [if_neg (by simp [h0]), if_neg h0]
   by_cases h1 : 0 < d.fuse
   ·rw [if_pos h1];have h2 := act_pos p d sa sc ca cc w hok hv hd h1;rw [hd] at h2;exact h2
   ·rw [if_neg h1];exact act_neg p d sa sc ca cc w hok hv hd (by omega)

theorem Aft.then0 {w w1 w2 : World} {p : Nat} {d : Dk} {sa : Option Addr} {sc : Nat} {ca : Option Addr} {cc : Nat} (f : Fr0 w w1) (h : Aft w1 w2 p d sa sc ca cc) : Aft w w2 p d sa sc ca cc := ⟨h.at_, (f.weaken (S' := fun i => i = p) (fun _ _ h => h.elim)).trans h.fr⟩
theorem Aft.same {w w1 : World} {p : Nat} {d : Dk} {sa : Option Addr} {sc : Nat} {ca : Option Addr} {cc : Nat} (h : DAt w p d sa sc ca cc) (f : Fr0 w w1) : Aft w w1 p d sa sc ca cc := ⟨h.keep f, f.weaken (fun _ _ h => h.elim)⟩

end Go.Proofs.YtmkmpfnadcmcoaaGreatDoor.DiskAct
namespace Go.Proofs.YtmkmpfnadcmcoaaGreatDoor.DiskNew
open Go Go.RowKit K EqKit ArrKit HeldKit GKit GRow DiskKit DiskAsk DiskForm DiskAct
def newD (n : Int) : Dk := if 1 ≤ n ∧ n ≤ 4096 then ⟨List.replicate n.toNat Zs, [], -1, false⟩ else ⟨[], [], 0, false⟩
def newE (n : Int) : Int := if 1 ≤ n ∧ n ≤ 4096 then 0 else 1
theorem newD_ok (n : Int) : (newD n).ok := by
 unfold newD
 split
 ·exact ⟨fun x hx => by rw [(List.mem_replicate.1 hx).2];exact Zs_ok, fun x hx => by simp at hx, (show (Lit.int .i64 (-1)).wf = true by decide)⟩
 ·exact ⟨fun x hx => by simp at hx, fun x hx => by simp at hx, (by decide)⟩
def Gives (w w' : World) (d : Dk) (e : Ending) (x : Int) : Prop := ∃ sa sc ca cc, e = .returned (.tuple #[.agg (dval d sa sc ca cc), .int .i64 x]) ∧ DV w' d sa sc ca cc ∧ Fr0 w w'
theorem DC_one (a b : Option Addr) (n m c k : Nat) (f : Int) (dn : Bool) : (DC (.slice a n c) (.slice b m k) f dn).all (·.oneCell') = true := by simp [Value.oneCell']
def DZ : Array Value := DC (.slice none 0 0) (.slice none 0 0) 0 false
def ZSC : Array Value := Zs.cells.toArray
theorem infoS : (Tryz.prog.info? 66).map (fun i => (i.zero, i.size, i.bytes)) = some (some (.agg ZSC), 130, 130) := by kernel_rfl
theorem made_get (n i : Nat) (h : i < n) : (madeCells ZSC n)[i]? = Zs.cells[i % 130]? := by
 have hz : ZSC.size = 130 := by rw [ZSC, List.size_toArray, Sec.len Zs_ok]
 have hm : i % 130 < ZSC.size := by rw [hz];omega
 have hm2 : i % 130 < Zs.cells.length := by rw [Sec.len Zs_ok];omega
 rw [madeCells, Array.getElem?_map, Array.getElem?_range, if_pos h, Option.map_some, hz, getElem!_pos ZSC _ hm]
 simp [ZSC]
theorem made_rd (w : World) (g n : Nat) {cs : Array Value} (hcs : madeCells ZSC (n * 130) = cs) (h : Bk w g cs 66) : RdS w (some ⟨g, 0, none⟩) (List.replicate n Zs) := RdG.of fun i hi j u hj => by
 subst hcs
 rw [List.length_replicate] at hi
 rw [List.getElem_replicate] at hj
 have hj' : j < 130 := by
  have := (List.getElem?_eq_some_iff.1 hj).1
  rwa [Sec.len Zs_ok] at this
 rw [Bk.cell h, made_get _ _ (by omega), show (0 + i * 130 + j) % 130 = j by omega]
 exact hj

theorem new_low (n : Int) (w : World) (h : n < 1) : Calls Tryz.prog 28 #[.int .i64 n] w fun e w' => Gives w w' (newD n) e (newE n) := by
 have hz : ∀ W, (zeroValue 25).run Tryz.prog W = .ok (.agg DZ) W := by intro W;kernel_rfl
 have c0 : decide (n < 1) = true := decide_eq_true h
 have HB : Jq7 (Bk (w.alloc (.cells DZ 25)) w.heap.size DZ 25) := jq7 (Bk.new w _)
 go_enter Tryz.func28, Tryz.ntmps28
 go_wp2_with (first | (((with_reducible show wkq (.build 25 #[]) _));refine build_eq rfl 25 _ rfl DZ (by kernel_rfl) ?_) | ((with_reducible show wkq (.store 25 _ _) _);refine wpList_store_row rfl 25 _ _ rfl w.heap.size DZ rfl rfl 25 DZ HB.o info_d rfl (DC_one _ _ _ _ _ _ _ _) ?_))
 refine fin_ct w.heap.size 25 DZ (.int .i64 1) (by rfl) (by rfl) (by rfl) (by rfl) Tryz.underlying25 (by rfl) info_d (ArrKit.Bk.row HB.o DZ) ?_
 rw [newD, newE, if_neg (by omega), if_neg (by omega)]
 exact ⟨none, 0, none, 0, rfl, ⟨RdG.nil _ _, RdG.nil _ _, by decide, by decide, by decide, by decide⟩, ArrKit.Fr.row (Fr.alloc (Fr.refl _ _) _) _ _ (.inl (Nat.le_refl _))⟩

theorem new_high (n : Int) (w : World) (h : 4096 < n) : Calls Tryz.prog 28 #[.int .i64 n] w fun e w' => Gives w w' (newD n) e (newE n) := by
 have hz : ∀ W, (zeroValue 25).run Tryz.prog W = .ok (.agg DZ) W := by intro W;kernel_rfl
 have c0 : decide (n < 1) = false := decide_eq_false (by omega)
 have c1 : decide (4096 < n) = true := decide_eq_true (by omega)
 have HB : Jq7 (Bk (w.alloc (.cells DZ 25)) w.heap.size DZ 25) := jq7 (Bk.new w _)
 go_enter Tryz.func28, Tryz.ntmps28
 go_wp2_with (first | (((with_reducible show wkq (.build 25 #[]) _));refine build_eq rfl 25 _ rfl DZ (by kernel_rfl) ?_) | ((with_reducible show wkq (.store 25 _ _) _);refine wpList_store_row rfl 25 _ _ rfl w.heap.size DZ rfl rfl 25 DZ HB.o info_d rfl (DC_one _ _ _ _ _ _ _ _) ?_))
 refine fin_ct w.heap.size 25 DZ (.int .i64 1) (by rfl) (by rfl) (by rfl) (by rfl) Tryz.underlying25 (by rfl) info_d (ArrKit.Bk.row HB.o DZ) ?_
 rw [newD, newE, if_neg (by omega), if_neg (by omega)]
 exact ⟨none, 0, none, 0, rfl, ⟨RdG.nil _ _, RdG.nil _ _, by decide, by decide, by decide, by decide⟩, ArrKit.Fr.row (Fr.alloc (Fr.refl _ _) _) _ _ (.inl (Nat.le_refl _))⟩

theorem new_good (n : Int) (w : World) (h : 1 ≤ n ∧ n ≤ 4096) : Calls Tryz.prog 28 #[.int .i64 n] w fun e w' => Gives w w' (newD n) e (newE n) := by
 have hz : ∀ W, (zeroValue 25).run Tryz.prog W = .ok (.agg DZ) W := by intro W;kernel_rfl
 obtain ⟨m, rfl⟩ : ∃ m : Nat, n = m := ⟨n.toNat, by omega⟩
 have c0 : decide ((m : Int) < 1) = false := decide_eq_false (by omega)
 have c1 : decide ((4096 : Int) < (m : Int)) = false := decide_eq_false (by omega)
 obtain ⟨i0, hi, hz0, hz1, hz2⟩ := info_parts infoS
 have hmk : ∀ W : World, (Instr.makeSlice 22 (.int .i64 (m : Int)) (.int .i64 (m : Int))).run Tryz.prog W = .ok (.slice (some ⟨W.heap.size, 0, none⟩) m m) (W.alloc (.cells (madeCells ZSC (m * 130)) 66)) := fun W => by
  have := run_make (P := Tryz.prog) W 22 66 i0 (.agg ZSC) Tryz.underlying22 hi hz0 .i64 .i64 m m (by omega) (by omega) (by rw [hz2];omega) (by omega)
  rw [hz1, Int.toNat_natCast] at this
  exact this
 have hs1 : (w.alloc (.cells DZ 25)).heap.size = w.heap.size + 1 := by simp
 have hbd : Tryz.prog.built 25 [(0, .slice (some ⟨w.heap.size + 1, 0, none⟩) m m), (2, .int .i64 (-1))] = some (DC (.slice (some ⟨w.heap.size + 1, 0, none⟩) m m) (.slice none 0 0) (-1) false) := by kernel_rfl
 generalize hMC : madeCells ZSC (m * 130) = MC at *
 have HMC := jq7 hMC
 have HB : Jq7 (Bk ((w.alloc (.cells DZ 25)).alloc (.cells MC 66)) w.heap.size DZ 25) := jq7 (Bk.alloc (Bk.new w _) _)
 have HM : Jq7 (Bk ((w.alloc (.cells DZ 25)).alloc (.cells MC 66)) (w.heap.size + 1) MC 66) := jq7 (by have := Bk.new (w.alloc (.cells DZ 25)) (.cells MC 66);rwa [hs1] at this)
 have HF : Jq7 (Fr0 w ((w.alloc (.cells DZ 25)).alloc (.cells MC 66))) := jq7 (Fr.alloc (Fr.alloc (Fr.refl _ _) _) _)
 clear hMC hi hz0 hz1 hz2 hs1
 have HH := jq7 h
 clear h
 go_enter Tryz.func28, Tryz.ntmps28
 go_wp2_with (first | ((with_reducible show wkq (.build 25 _) _);refine build_ev rfl 25 _ rfl [(0, .slice (some ⟨w.heap.size + 1, 0, none⟩) m m), (2, .int .i64 (-1))] (by simp [Act.eval, Act.put]) (DC (.slice (some ⟨w.heap.size + 1, 0, none⟩) m m) (.slice none 0 0) (-1) false) hbd ?_) | ((with_reducible show wkq (.store 25 _ _) _);refine wpList_store_row rfl 25 _ _ rfl w.heap.size (DC (.slice (some ⟨w.heap.size + 1, 0, none⟩) m m) (.slice none 0 0) (-1) false) rfl rfl 25 DZ HB.o info_d rfl (DC_one _ _ _ _ _ _ _ _) ?_))
 have HN : Jq7 (Fr (fun i => i = w.heap.size) ((w.alloc (.cells DZ 25)).alloc (.cells MC 66)) (((w.alloc (.cells DZ 25)).alloc (.cells MC 66)).setRow w.heap.size (DC (.slice (some ⟨w.heap.size + 1, 0, none⟩) m m) (.slice none 0 0) (-1) false))) := jq7 (ArrKit.Fr.row (Fr.refl _ _) _ _ (.inr rfl))
 refine fin_ct w.heap.size 25 (DC (.slice (some ⟨w.heap.size + 1, 0, none⟩) m m) (.slice none 0 0) (-1) false) (.int .i64 0) (by rfl) (by rfl) (by rfl) (by rfl) Tryz.underlying25 (by rfl) info_d (ArrKit.Bk.row HB.o _) ?_
 have hM := HN.o.keep HM.o (by omega)
 have hh := HH.o
 rw [newD, newE, if_pos hh, if_pos hh, Int.toNat_natCast]
 refine ⟨some ⟨w.heap.size + 1, 0, none⟩, m, none, 0, by simp [dval], ⟨made_rd _ _ _ HMC.o hM, RdG.nil _ _, by simp, by omega, Nat.le_refl _, by omega⟩, ArrKit.Fr.row HF.o _ _ (.inl (Nat.le_refl _))⟩

theorem new_calls (n : Int) (w : World) : Calls Tryz.prog 28 #[.int .i64 n] w fun e w' => Gives w w' (newD n) e (newE n) := by
 by_cases h0 : n < 1
 ·exact new_low n w h0
 ·by_cases h1 : 4096 < n
  ·exact new_high n w h1
  ·exact new_good n w (by omega)

end Go.Proofs.YtmkmpfnadcmcoaaGreatDoor.DiskNew
namespace Go.Proofs.YtmkmpfnadcmcoaaGreatDoor.DiskCopy
open Go Go.RowKit K EqKit ArrKit HeldKit GKit GRow DiskKit DiskAsk DiskForm DiskAct DiskNew
theorem infoW : (Tryz.prog.info? 68).map (fun i => (i.zero, i.size, i.bytes)) = some (some (.agg (Wri.mk 0 Z128).cells.toArray), 129, 136) := by kernel_rfl
theorem secs_len {l : List Sec} (h : ∀ x ∈ l, x.ok) : ∀ x ∈ l, x.cells.length = 130 := fun x hx => Sec.len (h x hx)
theorem wris_len {l : List Wri} (h : ∀ x ∈ l, x.ok) : ∀ x ∈ l, x.cells.length = 129 := fun x hx => Wri.leng (h x hx)
theorem ZSC_cells : (Value.agg ZSC).cells.size = 130 := by
 show ZSC.size = 130
 rw [ZSC, List.size_toArray, Sec.len Zs_ok]
theorem ZWC_cells : (Value.agg (Wri.mk 0 Z128).cells.toArray).cells.size = 129 := by
 show (Wri.mk 0 Z128).cells.toArray.size = 129
 rw [List.size_toArray, Wri.leng ⟨by simp [Z128], by decide⟩]
abbrev OwnS (w : World) (g cap : Nat) (cur : Array Value) (l : List Sec) : Prop := OwnG Sec.cells 130 66 w g cap cur l
abbrev OwnW (w : World) (g cap : Nat) (cur : Array Value) (l : List Wri) : Prop := OwnG Wri.cells 129 68 w g cap cur l
theorem clone_calls (sa : Option Addr) (sc : Nat) (l : List Sec) (w : World) (hrd : RdS w sa l) (hok : ∀ x ∈ l, x.ok) (h0 : 0 < l.length) (hn : l.length * 130 ≤ 140737488355328) :
  Calls Tryz.prog 36 #[.slice sa l.length sc] w fun e w' => ∃ g cap cur, e = .returned (.slice (some ⟨g, 0, none⟩) l.length cap) ∧ w.heap.size ≤ g ∧ OwnS w' g cap cur l ∧ Fr0 w w' := by
 obtain ⟨b, o, rfl, -, -⟩ := RdG.form hrd h0 Sec.pos
 obtain ⟨i0, hi, hz0, hz1, hz2⟩ := info_parts infoS
 have HI : Jq7 (Tryz.prog.info? 66 = some i0 ∧ i0.zero = some (.agg ZSC) ∧ i0.size = 130 ∧ i0.bytes = 130) := jq7 ⟨hi, hz0, hz1, hz2⟩
 have HE : Jq7 (Bk (w.alloc (.cells #[] 66)) w.heap.size #[] 66) := jq7 (Bk.new w _)
 have HRD : Jq7 (RdS (w.alloc (.cells #[] 66)) (some ⟨b, o, none⟩) l) := jq7 (RdG.keep hrd (Fr.alloc (Fr.refl _ _) _))
 have HOK := jq7 hok
 clear hi hz0 hz1 hz2 hrd hok
 have hes := @Lib.run_eql_slice_nil Tryz.prog
 go_enter Tryz.func36, Tryz.ntmps36
 go_wp2_with (at_builtin;refine wpList_append_all rfl (.tmp 5) (.tmp 6) 22 (by rfl) i0 (.agg ZSC) 130 Tryz.underlying22 HI.o.1 HI.o.2.1 HI.o.2.2.1 HI.o.2.2.2 ZSC_cells (by decide) w.heap.size HE.o (by rfl) (some ⟨b, o, none⟩) l.length sc (by rfl) l rfl HRD.o (secs_len HOK.o) (fun x _ => Sec.one x) (by omega) hn ?_;intro g cap cur w1 hge hown hfr)
 go_ret
 exact ⟨g, cap, cur, rfl, hge, hown, Fr.newG (Fr.alloc (Fr.refl _ _) _) hfr (Nat.le_refl _)⟩

theorem size_set (w : World) (a : Addr) (v : Value) : (w.setCell a v).heap.size = w.heap.size := by simp [World.setCell]
theorem copy_calls (d : Dk) (sa : Option Addr) (sc : Nat) (ca : Option Addr) (cc : Nat) (w : World) (hok : d.ok) (hv : DV w d sa sc ca cc) (hS : d.S.length * 130 ≤ 140737488355328) (hC : d.C.length * 136 ≤ 140737488355328) :
  Calls Tryz.prog 7 #[.agg (dval d sa sc ca cc)] w fun e w' => ∃ sa' sc' ca' cc', e = .returned (.agg (dval d sa' sc' ca' cc')) ∧ DV w' d sa' sc' ca' cc' ∧ Fr0 w w' := by
 obtain ⟨i0, hi, hz0, hz1, hz2⟩ := info_parts infoS
 have HI : Jq7 (Tryz.prog.info? 66 = some i0 ∧ i0.zero = some (.agg ZSC) ∧ i0.size = 130 ∧ i0.bytes = 130) := jq7 ⟨hi, hz0, hz1, hz2⟩
 clear hi hz0 hz1 hz2
 obtain ⟨i1, hi, hz0, hz1, hz2⟩ := info_parts infoW
 have HJ : Jq7 (Tryz.prog.info? 68 = some i1 ∧ i1.zero = some (.agg (Wri.mk 0 Z128).cells.toArray) ∧ i1.size = 129 ∧ i1.bytes = 136) := jq7 ⟨hi, hz0, hz1, hz2⟩
 clear hi hz0 hz1 hz2
 have hz : ∀ W, (zeroValue 25).run Tryz.prog W = .ok (.agg DZ) W := by intro W;kernel_rfl
 obtain ⟨SS, CC, ff, dd⟩ := d
 dsimp only [dval] at *
 have hs1 : (w.alloc (.cells (DC (.slice sa SS.length sc) (.slice ca CC.length cc) ff dd) 25)).heap.size = w.heap.size + 1 := by simp
 have hs2 : ((w.alloc (.cells (DC (.slice sa SS.length sc) (.slice ca CC.length cc) ff dd) 25)).alloc (.cells DZ 25)).heap.size = w.heap.size + 1 + 1 := by simp
 have HB0 : Jq7 (Bk (((w.alloc (.cells (DC (.slice sa SS.length sc) (.slice ca CC.length cc) ff dd) 25)).alloc (.cells DZ 25)).alloc (.cells #[] 66)) w.heap.size (DC (.slice sa SS.length sc) (.slice ca CC.length cc) ff dd) 25) := jq7 (Bk.alloc (Bk.alloc (Bk.new w _) _) _)
 have HR0 : Jq7 (Bk (((w.alloc (.cells (DC (.slice sa SS.length sc) (.slice ca CC.length cc) ff dd) 25)).alloc (.cells DZ 25)).alloc (.cells #[] 66)) (w.heap.size + 1) DZ 25) := jq7 (Bk.alloc (by have := Bk.new (w.alloc (.cells (DC (.slice sa SS.length sc) (.slice ca CC.length cc) ff dd) 25)) (.cells DZ 25);rwa [hs1] at this) _)
 have HE0 : Jq7 (Bk (((w.alloc (.cells (DC (.slice sa SS.length sc) (.slice ca CC.length cc) ff dd) 25)).alloc (.cells DZ 25)).alloc (.cells #[] 66)) (w.heap.size + 1 + 1) #[] 66) := jq7 (by have := Bk.new ((w.alloc (.cells (DC (.slice sa SS.length sc) (.slice ca CC.length cc) ff dd) 25)).alloc (.cells DZ 25)) (.cells #[] 66);rwa [hs2] at this)
 have HF0 : Jq7 (Fr0 w (((w.alloc (.cells (DC (.slice sa SS.length sc) (.slice ca CC.length cc) ff dd) 25)).alloc (.cells DZ 25)).alloc (.cells #[] 66))) := jq7 (Fr.alloc (Fr.alloc (Fr.alloc (Fr.refl _ _) _) _) _)
 have HRS : Jq7 (RdS (((w.alloc (.cells (DC (.slice sa SS.length sc) (.slice ca CC.length cc) ff dd) 25)).alloc (.cells DZ 25)).alloc (.cells #[] 66)) sa SS) := jq7 (RdG.keep hv.rs HF0.o)
 have HRC := jq7 hv.rc
 have HOS := jq7 hok.s
 have HOC := jq7 hok.c
 have hsm : SS.length ≤ 9223372036854775807 := by omega
 have hcm : CC.length ≤ 9223372036854775807 := by omega
 clear hs1 hs2 hok hv
 go_enter Tryz.func7, Tryz.ntmps7
 go_wp2_with (first | (at_builtin;refine wpList_append_all rfl (.tmp 3) (.tmp 5) 22 (by rfl) i0 (.agg ZSC) 130 Tryz.underlying22 HI.o.1 HI.o.2.1 HI.o.2.2.1 HI.o.2.2.2 ZSC_cells (by decide) (w.heap.size + 1 + 1) HE0.o (by rfl) sa SS.length sc (by rfl) SS rfl HRS.o (secs_len HOS.o) (fun x _ => Sec.one x) hsm hS ?_;intro g cap cur w1 hge hown hfr;have HO1 := jq7 hown;have HF1 := jq7 (Fr.newG HF0.o hfr (by omega));have HB1 := jq7 (hfr.keep HB0.o (by omega));have HR1 := jq7 (hfr.keep HR0.o (by omega));have hlt1 : w.heap.size < w1.heap.size := Bk.lt HB1.o;have p0 : w1.cell? ⟨w.heap.size, 0, none⟩ = some (.slice sa SS.length sc) := Bk.cell HB1.o 0;have p1 : w1.cell? ⟨w.heap.size, 1, none⟩ = some (.slice ca CC.length cc) := Bk.cell HB1.o 1;have f0 := Bk.free HB1.o 0;have f1 := Bk.free HB1.o 1;have HGE := jq7 hge;clear hown hfr hge) | (at_builtin;refine wpList_append_all rfl (.tmp 8) (.tmp 10) 23 (by rfl) i1 (.agg (Wri.mk 0 Z128).cells.toArray) 136 Tryz.underlying23 HJ.o.1 HJ.o.2.1 HJ.o.2.2.1 HJ.o.2.2.2 ZWC_cells (by decide) w1.heap.size (by have := Bk.new (w1.setCell ⟨w.heap.size, 0, none⟩ (.slice (some ⟨g, 0, none⟩) SS.length cap)) (.cells #[] 68);rwa [size_set] at this) (by rfl) ca CC.length cc (by rfl) CC rfl (RdG.keep HRC.o (Fr.alloc (Fr.set HF1.o _ _ (.inl (Nat.le_refl _))) _)) (wris_len HOC.o) (fun x _ => Wri.one x) hcm hC ?_;intro g2 cap2 cur2 w2 hge2 hown2 hfr2;have HO2 := jq7 hown2;have HB2 : Jq7 (Bk w2 w.heap.size (DC (.slice (some ⟨g, 0, none⟩) SS.length cap) (.slice ca CC.length cc) ff dd) 25) := jq7 (hfr2.keep (Bk.alloc (Bk.set HB1.o 0 _) _) (by omega));have HR2 : Jq7 (Bk w2 (w.heap.size + 1) DZ 25) := jq7 (hfr2.keep (Bk.alloc (Bk.setOther HR1.o _ _ (by simp)) _) (by have := Bk.lt HR1.o;omega));have HO3 : Jq7 (OwnS w2 g cap cur SS) := jq7 (OwnG.keep (OwnG.keep HO1.o (S := fun i => i = w.heap.size) (w1 := (w1.setCell ⟨w.heap.size, 0, none⟩ (.slice (some ⟨g, 0, none⟩) SS.length cap)).alloc (.cells #[] 68)) (Fr.alloc (Fr.set1 _ _ _ _) _) (by have := HGE.o;omega)) hfr2 (by have := Bk.lt HO1.o.blk;omega));have HF2 := jq7 (Fr.newG (Fr.alloc (Fr.set HF1.o ⟨w.heap.size, 0, none⟩ (.slice (some ⟨g, 0, none⟩) SS.length cap) (.inl (Nat.le_refl _))) (.cells #[] 68)) hfr2 (by omega));have hlt2 : w.heap.size < w2.heap.size := Bk.lt HB2.o;have HG2 : Jq7 (w1.heap.size ≤ g2) := jq7 hge2;have r1 : w2.cell? ⟨w.heap.size, 1, none⟩ = some (.slice ca CC.length cc) := Bk.cell HB2.o 1;have f21 := Bk.free HB2.o 1;have HB3 : Jq7 (Bk (w2.setCell ⟨w.heap.size, 1, none⟩ (.slice (some ⟨g2, 0, none⟩) CC.length cap2)) w.heap.size (DC (.slice (some ⟨g, 0, none⟩) SS.length cap) (.slice (some ⟨g2, 0, none⟩) CC.length cap2) ff dd) 25) := jq7 (Bk.set HB2.o 1 _);have HR3 : Jq7 (Bk (w2.setCell ⟨w.heap.size, 1, none⟩ (.slice (some ⟨g2, 0, none⟩) CC.length cap2)) (w.heap.size + 1) DZ 25) := jq7 (Bk.setOther HR2.o _ _ (by simp));clear hown2 hfr2 hge2) | ((with_reducible show wkq (.load 25 _) _);refine wpList_load_row rfl 25 _ rfl w.heap.size rfl 25 _ (0, 0) _ HB3.o Tryz.underlying25 rfl info_d ?_) | ((with_reducible show wkq (.store 25 _ _) _);refine wpList_store_row rfl 25 _ _ rfl (w.heap.size + 1) (DC (.slice (some ⟨g, 0, none⟩) SS.length cap) (.slice (some ⟨g2, 0, none⟩) CC.length cap2) ff dd) rfl rfl 25 DZ HR3.o info_d rfl (DC_one _ _ _ _ _ _ _ _) ?_))
 refine fin_c (w.heap.size + 1) 25 (DC (.slice (some ⟨g, 0, none⟩) SS.length cap) (.slice (some ⟨g2, 0, none⟩) CC.length cap2) ff dd) (by rfl) (by rfl) (by rfl) Tryz.underlying25 (by rfl) info_d (ArrKit.Bk.row HR3.o _) ?_
 have k0 := HGE.o
 have k2 := HG2.o
 have k3 := Bk.lt HR1.o
 have HO4 := OwnG.keep (S := fun i => i = w.heap.size) HO3.o (Fr.set1 w2 w.heap.size 1 (.slice (some ⟨g2, 0, none⟩) CC.length cap2)) (by omega)
 have HO5 := OwnG.keep (S := fun i => i = w.heap.size) HO2.o (Fr.set1 w2 w.heap.size 1 (.slice (some ⟨g2, 0, none⟩) CC.length cap2)) (by omega)
 have fr := ArrKit.Fr.row (Fr.refl (fun i => i = w.heap.size + 1) (w2.setCell ⟨w.heap.size, 1, none⟩ (.slice (some ⟨g2, 0, none⟩) CC.length cap2))) (w.heap.size + 1) (DC (.slice (some ⟨g, 0, none⟩) SS.length cap) (.slice (some ⟨g2, 0, none⟩) CC.length cap2) ff dd) (.inr rfl)
 have HO6 := OwnG.keep HO4 fr (by omega)
 have HO7 := OwnG.keep HO5 fr (by omega)
 exact ⟨some ⟨g, 0, none⟩, cap, some ⟨g2, 0, none⟩, cap2, rfl, ⟨HO6.rd, HO7.rd, HO6.room, HO6.max, HO7.room, HO7.max⟩, ArrKit.Fr.row (Fr.set HF2.o _ _ (.inl (Nat.le_refl _))) _ _ (.inl (by omega))⟩

end Go.Proofs.YtmkmpfnadcmcoaaGreatDoor.DiskCopy
