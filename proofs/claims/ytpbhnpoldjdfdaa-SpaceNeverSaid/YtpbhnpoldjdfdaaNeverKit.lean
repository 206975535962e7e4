/- SpaceNever: the state of a play, as the walk has it; the easy ends. -/
import Derived.Test.YtpbhnpoldjdfdaaSpRow
import Derived.Test.YtpbhnpoldjdfdaaSpAlive
set_option linter.unusedVariables false
set_option linter.unusedSimpArgs false
namespace Go.Proofs.Ytpbhnpoldjdfdaa.NeverKit
open Go Go.RowKit Go.Proofs.Ytpbhnpoldjdfdaa.K Go.Proofs.Ytpbhnpoldjdfdaa.EqKit Go.Proofs.Ytpbhnpoldjdfdaa.ArrKit Go.Proofs.Ytpbhnpoldjdfdaa.HeldKit Go.Proofs.Ytpbhnpoldjdfdaa.GKit Go.Proofs.Ytpbhnpoldjdfdaa.GRow Go.Proofs.Ytpbhnpoldjdfdaa.SpKit Go.Proofs.Ytpbhnpoldjdfdaa.SpAsk Go.Proofs.Ytpbhnpoldjdfdaa.SpFind Go.Proofs.Ytpbhnpoldjdfdaa.SpNew Go.Proofs.Ytpbhnpoldjdfdaa.SpBecome Go.Proofs.Ytpbhnpoldjdfdaa.SpIdx Go.Proofs.Ytpbhnpoldjdfdaa.SpTake Go.Proofs.Ytpbhnpoldjdfdaa.SpPlaces Go.Proofs.Ytpbhnpoldjdfdaa.SpDrop Go.Proofs.Ytpbhnpoldjdfdaa.SpAlive Go.Proofs.Ytpbhnpoldjdfdaa.SpRow Go.Proofs.Ytpbhnpoldjdfdaa.NeverPlain Go.Proofs.Ytpbhnpoldjdfdaa.PtrKit

/-- the sector of a place of the law's space -/
def sc (i : Nat) : Nat := SpAsk.Sp.sec sp6 i
def scO : Option Nat → Int
  | none => -1
  | some j => (sc j : Int)
def ptv (p : Nat × Option Nat) : List Value := PC (sc p.1 : Int) (scO p.2) PtrAsk.Z
theorem ptv_len (p : Nat × Option Nat) : (ptv p).length = 34 := by rw [ptv, PC_length, PtrAsk.Z_len]
theorem ptv_one (p : Nat × Option Nat) : ∀ v ∈ ptv p, v.oneCell' = true := fun v hv => by
  unfold ptv PC at hv
  rcases List.mem_cons.1 hv with rfl | hv
  · rfl
  · rcases List.mem_cons.1 hv with rfl | hv
    · rfl
    · obtain ⟨x, -, rfl⟩ := List.mem_map.1 hv; rfl
def spS (st : List UInt8) : Sp := S4 sp6 st
theorem spS_sec (st : List UInt8) (i : Nat) : SpAsk.Sp.sec (spS st) i = sc i := rfl
theorem spS_ok {st : List UInt8} (h1 : st.length = 12) (h2 : ∀ x ∈ st, x.toNat ≤ 4) : (spS st).ok := ⟨sp6_ok.z1, sp6_ok.z2, sp6_ok.ab, sp6_ok.top, h1, h2⟩
theorem sc_lt {i : Nat} (h : i < 12) : sc i < 4096 := sec_lt sp6_ok h
theorem sc_inj {i j : Nat} (hi : i < 12) (hj : j < 12) (e : sc i = sc j) : i = j := sec_inj sp6_ok hi hj e
/-- the rows of pointers, and of numbers -/
abbrev RowP (w : World) (base : Nat) (v : Value) (l : List (Nat × Option Nat)) : Prop := Row ptv 34 37 w base v l
abbrev RowN (w : World) (base : Nat) (v : Value) (l : List Nat) : Prop := Row (fun i : Nat => [Value.int .i64 (sc i : Int)]) 1 3 w base v l
/-- the two values are of no one block -/
def Dis (a b : Value) : Prop := ∀ g, a.ownBlock = some g → b.ownBlock ≠ some g
theorem Dis.symm {a b : Value} (h : Dis a b) : Dis b a := fun g e1 e2 => h g e2 e1
/-- the four rows of a play -/
structure Rws (w : World) (p : Nat) (held : List (Nat × Option Nat)) (kept gone going : List Nat) (vh vk vg vq : Value) : Prop where
  h : RowP w (p + 1) vh held
  k : RowN w (p + 1) vk kept
  g : RowN w (p + 1) vg gone
  q : RowN w (p + 1) vq going
  hk : Dis vh vk
  hg : Dis vh vg
  hq : Dis vh vq
  kg : Dis vk vg
  kq : Dis vk vq
  gq : Dis vg vq
theorem Rws.keep {S : Nat → Prop} {w w' : World} {p : Nat} {held : List (Nat × Option Nat)} {kept gone going : List Nat} {vh vk vg vq : Value} (r : Rws w p held kept gone going vh vk vg vq) (f : Fr S w w') (hs : ∀ i, p < i → ¬ S i) : Rws w' p held kept gone going vh vk vg vq :=
  ⟨r.h.keep f (fun g e => hs g (r.h.blk g e).1), r.k.keep f (fun g e => hs g (r.k.blk g e).1), r.g.keep f (fun g e => hs g (r.g.blk g e).1), r.q.keep f (fun g e => hs g (r.q.blk g e).1), r.hk, r.hg, r.hq, r.kg, r.kq, r.gq⟩
/-- the space, of a block that is none of the rows' -/
def SpAt (w : World) (p : Nat) (st : List UInt8) (vh vk vg vq : Value) : Prop := ∃ g c, SAt w p (spS st) g 0 c ∧ vh.ownBlock ≠ some g ∧ vk.ownBlock ≠ some g ∧ vg.ownBlock ≠ some g ∧ vq.ownBlock ≠ some g
theorem SpAt.now {w w' : World} {p : Nat} {st' : List UInt8} {held : List (Nat × Option Nat)} {kept gone going : List Nat} {vh vk vg vq : Value} (r : Rws w p held kept gone going vh vk vg vq) (hp : p < w.heap.size) (n : Now w w' p (spS st')) : SpAt w' p st' vh vk vg vq := by
  obtain ⟨⟨g, c, hg, hs⟩, -⟩ := n
  exact ⟨g, c, hs, fun e => by have := (r.h.blk g e).2; omega, fun e => by have := (r.k.blk g e).2; omega, fun e => by have := (r.g.blk g e).2; omega, fun e => by have := (r.q.blk g e).2; omega⟩
theorem spS_start : spS (List.replicate 12 0) = sp6 := rfl
theorem rws_start (w : World) (p : Nat) : Rws w p [] [] [] [] (.slice none 0 0) (.slice none 0 0) (.slice none 0 0) (.slice none 0 0) := by
  have d : Dis (.slice none 0 0) (.slice none 0 0) := fun g e => by simp [Value.ownBlock] at e
  exact ⟨Row.nil _ _, Row.nil _ _, Row.nil _ _, Row.nil _ _, d, d, d, d, d, d⟩
theorem SpAt.keep0 {w w' : World} {p : Nat} {st : List UInt8} {vh vk vg vq : Value} (h : SpAt w p st vh vk vg vq) (f : Fr0 w w') : SpAt w' p st vh vk vg vq := by
  obtain ⟨g, c, h2, h3⟩ := h
  exact ⟨g, c, h2.keep f, h3⟩
set_option maxHeartbeats 2000000 in
set_option maxRecDepth 100000 in
theorem never_long (l : List UInt8) (la : Option Addr) (lc : Nat) (w : World) (h3 : 300 < l.length) (hm : l.length ≤ 9223372036854775807) : Calls Try.prog 3 #[.slice la l.length lc] w fun e w' => e = .returned (.bool true) ∧ Fr0 w w' := by
  go_enter Try.func3, Try.ntmps3
  go_wp2_with (go_at_call 4; (with_reducible refine (alive_calls _).mono ?_); rintro e w1 ⟨rfl, hf1⟩; have HF1 := Lib.hid hf1; clear hf1)
  go_ret
  exact ⟨rfl, HF1.out⟩
theorem Rws.add_h {w w' : World} {p : Nat} {held : List (Nat × Option Nat)} {kept gone going : List Nat} {vh vk vg vq : Value} (r : Rws w p held kept gone going vh vk vg vq) (v' : Value) (l' : List (Nat × Option Nat)) (row : RowP w' (p + 1) v' l') (f : Fr (fun i => vh.ownBlock = some i) w w') (hn : ∀ g, v'.ownBlock = some g → vh.ownBlock = some g ∨ w.heap.size ≤ g) : Rws w' p l' kept gone going v' vk vg vq :=
  ⟨row, r.k.keep f (fun g e e2 => r.hk g e2 e), r.g.keep f (fun g e e2 => r.hg g e2 e), r.q.keep f (fun g e e2 => r.hq g e2 e), (fun g e e2 => (hn g e).elim (fun e3 => r.hk g e3 e2) (fun e3 => by have := (r.k.blk g e2).2; omega) : Dis v' vk), (fun g e e2 => (hn g e).elim (fun e3 => r.hg g e3 e2) (fun e3 => by have := (r.g.blk g e2).2; omega) : Dis v' vg), (fun g e e2 => (hn g e).elim (fun e3 => r.hq g e3 e2) (fun e3 => by have := (r.q.blk g e2).2; omega) : Dis v' vq), r.kg, r.kq, r.gq⟩
theorem SpAt.add_h {w w' : World} {p : Nat} {st : List UInt8} {held : List (Nat × Option Nat)} {kept gone going : List Nat} {vh vk vg vq : Value} (hL : st.length = 12) (h : SpAt w p st vh vk vg vq) (r : Rws w p held kept gone going vh vk vg vq) (v' : Value) (f : Fr (fun i => vh.ownBlock = some i) w w') (hn : ∀ g, v'.ownBlock = some g → vh.ownBlock = some g ∨ w.heap.size ≤ g) : SpAt w' p st v' vk vg vq := by
  obtain ⟨g, c, hs, n1, n2, n3, n4⟩ := h
  have hgw : g < w.heap.size := by
    have h0 : 0 < (spS st).st.length := by show 0 < st.length; omega
    obtain ⟨b, o, e, hb, -⟩ := RdG.form hs.rd h0 (fun _ => by simp)
    cases e; exact hb
  have hx : vh.ownBlock ≠ some g := n1
  have hv : v'.ownBlock ≠ some g := fun e => (hn g e).elim hx (fun e2 => by omega)
  refine ⟨g, c, ⟨f.keep hs.blk (fun e => by have := (r.h.blk p e).1; omega), RdG.later hs.rd f (fun a e _ e2 => by cases e; exact hx e2), hs.cap, hs.max⟩, hv, n2, n3, n4⟩
theorem Rws.add_k {w w' : World} {p : Nat} {held : List (Nat × Option Nat)} {kept gone going : List Nat} {vh vk vg vq : Value} (r : Rws w p held kept gone going vh vk vg vq) (v' : Value) (l' : List Nat) (row : RowN w' (p + 1) v' l') (f : Fr (fun i => vk.ownBlock = some i) w w') (hn : ∀ g, v'.ownBlock = some g → vk.ownBlock = some g ∨ w.heap.size ≤ g) : Rws w' p held l' gone going vh v' vg vq :=
  ⟨r.h.keep f (fun g e e2 => r.hk.symm g e2 e), row, r.g.keep f (fun g e e2 => r.kg g e2 e), r.q.keep f (fun g e e2 => r.kq g e2 e), Dis.symm (fun g e e2 => (hn g e).elim (fun e3 => r.hk.symm g e3 e2) (fun e3 => by have := (r.h.blk g e2).2; omega) : Dis v' vh), r.hg, r.hq, (fun g e e2 => (hn g e).elim (fun e3 => r.kg g e3 e2) (fun e3 => by have := (r.g.blk g e2).2; omega) : Dis v' vg), (fun g e e2 => (hn g e).elim (fun e3 => r.kq g e3 e2) (fun e3 => by have := (r.q.blk g e2).2; omega) : Dis v' vq), r.gq⟩
theorem SpAt.add_k {w w' : World} {p : Nat} {st : List UInt8} {held : List (Nat × Option Nat)} {kept gone going : List Nat} {vh vk vg vq : Value} (hL : st.length = 12) (h : SpAt w p st vh vk vg vq) (r : Rws w p held kept gone going vh vk vg vq) (v' : Value) (f : Fr (fun i => vk.ownBlock = some i) w w') (hn : ∀ g, v'.ownBlock = some g → vk.ownBlock = some g ∨ w.heap.size ≤ g) : SpAt w' p st vh v' vg vq := by
  obtain ⟨g, c, hs, n1, n2, n3, n4⟩ := h
  have hgw : g < w.heap.size := by
    have h0 : 0 < (spS st).st.length := by show 0 < st.length; omega
    obtain ⟨b, o, e, hb, -⟩ := RdG.form hs.rd h0 (fun _ => by simp)
    cases e; exact hb
  have hx : vk.ownBlock ≠ some g := n2
  have hv : v'.ownBlock ≠ some g := fun e => (hn g e).elim hx (fun e2 => by omega)
  refine ⟨g, c, ⟨f.keep hs.blk (fun e => by have := (r.k.blk p e).1; omega), RdG.later hs.rd f (fun a e _ e2 => by cases e; exact hx e2), hs.cap, hs.max⟩, n1, hv, n3, n4⟩
theorem Rws.add_g {w w' : World} {p : Nat} {held : List (Nat × Option Nat)} {kept gone going : List Nat} {vh vk vg vq : Value} (r : Rws w p held kept gone going vh vk vg vq) (v' : Value) (l' : List Nat) (row : RowN w' (p + 1) v' l') (f : Fr (fun i => vg.ownBlock = some i) w w') (hn : ∀ g, v'.ownBlock = some g → vg.ownBlock = some g ∨ w.heap.size ≤ g) : Rws w' p held kept l' going vh vk v' vq :=
  ⟨r.h.keep f (fun g e e2 => r.hg.symm g e2 e), r.k.keep f (fun g e e2 => r.kg.symm g e2 e), row, r.q.keep f (fun g e e2 => r.gq g e2 e), r.hk, Dis.symm (fun g e e2 => (hn g e).elim (fun e3 => r.hg.symm g e3 e2) (fun e3 => by have := (r.h.blk g e2).2; omega) : Dis v' vh), r.hq, Dis.symm (fun g e e2 => (hn g e).elim (fun e3 => r.kg.symm g e3 e2) (fun e3 => by have := (r.k.blk g e2).2; omega) : Dis v' vk), r.kq, (fun g e e2 => (hn g e).elim (fun e3 => r.gq g e3 e2) (fun e3 => by have := (r.q.blk g e2).2; omega) : Dis v' vq)⟩
theorem SpAt.add_g {w w' : World} {p : Nat} {st : List UInt8} {held : List (Nat × Option Nat)} {kept gone going : List Nat} {vh vk vg vq : Value} (hL : st.length = 12) (h : SpAt w p st vh vk vg vq) (r : Rws w p held kept gone going vh vk vg vq) (v' : Value) (f : Fr (fun i => vg.ownBlock = some i) w w') (hn : ∀ g, v'.ownBlock = some g → vg.ownBlock = some g ∨ w.heap.size ≤ g) : SpAt w' p st vh vk v' vq := by
  obtain ⟨g, c, hs, n1, n2, n3, n4⟩ := h
  have hgw : g < w.heap.size := by
    have h0 : 0 < (spS st).st.length := by show 0 < st.length; omega
    obtain ⟨b, o, e, hb, -⟩ := RdG.form hs.rd h0 (fun _ => by simp)
    cases e; exact hb
  have hx : vg.ownBlock ≠ some g := n3
  have hv : v'.ownBlock ≠ some g := fun e => (hn g e).elim hx (fun e2 => by omega)
  refine ⟨g, c, ⟨f.keep hs.blk (fun e => by have := (r.g.blk p e).1; omega), RdG.later hs.rd f (fun a e _ e2 => by cases e; exact hx e2), hs.cap, hs.max⟩, n1, n2, hv, n4⟩
theorem Rws.add_q {w w' : World} {p : Nat} {held : List (Nat × Option Nat)} {kept gone going : List Nat} {vh vk vg vq : Value} (r : Rws w p held kept gone going vh vk vg vq) (v' : Value) (l' : List Nat) (row : RowN w' (p + 1) v' l') (f : Fr (fun i => vq.ownBlock = some i) w w') (hn : ∀ g, v'.ownBlock = some g → vq.ownBlock = some g ∨ w.heap.size ≤ g) : Rws w' p held kept gone l' vh vk vg v' :=
  ⟨r.h.keep f (fun g e e2 => r.hq.symm g e2 e), r.k.keep f (fun g e e2 => r.kq.symm g e2 e), r.g.keep f (fun g e e2 => r.gq.symm g e2 e), row, r.hk, r.hg, Dis.symm (fun g e e2 => (hn g e).elim (fun e3 => r.hq.symm g e3 e2) (fun e3 => by have := (r.h.blk g e2).2; omega) : Dis v' vh), r.kg, Dis.symm (fun g e e2 => (hn g e).elim (fun e3 => r.kq.symm g e3 e2) (fun e3 => by have := (r.k.blk g e2).2; omega) : Dis v' vk), Dis.symm (fun g e e2 => (hn g e).elim (fun e3 => r.gq.symm g e3 e2) (fun e3 => by have := (r.g.blk g e2).2; omega) : Dis v' vg)⟩
theorem SpAt.add_q {w w' : World} {p : Nat} {st : List UInt8} {held : List (Nat × Option Nat)} {kept gone going : List Nat} {vh vk vg vq : Value} (hL : st.length = 12) (h : SpAt w p st vh vk vg vq) (r : Rws w p held kept gone going vh vk vg vq) (v' : Value) (f : Fr (fun i => vq.ownBlock = some i) w w') (hn : ∀ g, v'.ownBlock = some g → vq.ownBlock = some g ∨ w.heap.size ≤ g) : SpAt w' p st vh vk vg v' := by
  obtain ⟨g, c, hs, n1, n2, n3, n4⟩ := h
  have hgw : g < w.heap.size := by
    have h0 : 0 < (spS st).st.length := by show 0 < st.length; omega
    obtain ⟨b, o, e, hb, -⟩ := RdG.form hs.rd h0 (fun _ => by simp)
    cases e; exact hb
  have hx : vq.ownBlock ≠ some g := n4
  have hv : v'.ownBlock ≠ some g := fun e => (hn g e).elim hx (fun e2 => by omega)
  refine ⟨g, c, ⟨f.keep hs.blk (fun e => by have := (r.q.blk p e).1; omega), RdG.later hs.rd f (fun a e _ e2 => by cases e; exact hx e2), hs.cap, hs.max⟩, n1, n2, n3, hv⟩

end Go.Proofs.Ytpbhnpoldjdfdaa.NeverKit
