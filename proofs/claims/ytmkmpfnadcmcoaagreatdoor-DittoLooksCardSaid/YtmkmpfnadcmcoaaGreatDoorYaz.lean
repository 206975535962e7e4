/- The theorems that the claim uses, text behind text (part 26). -/
import Derived.Test.YtmkmpfnadcmcoaaGreatDoorYae
set_option maxRecDepth 100000
set_option maxHeartbeats 8000000
set_option linter.unusedVariables false
set_option linter.unusedSimpArgs false
namespace Go.Proofs.YtmkmpfnadcmcoaaGreatDoor.RowG
open Go Go.RowKit K ArrKit HeldKit GKit GRow GApp
section
variable {α : Type} {f : α → List Value} {k : Nat} {e : TypeId}
def Row (f : α → List Value) (k : Nat) (e : TypeId) (w : World) (base : Nat) (v : Value) (l : List α) : Prop :=
 (v = .slice none 0 0 ∧ l = []) ∨ ∃ g cap cur, v = .slice (some ⟨g, 0, none⟩) l.length cap ∧ base ≤ g ∧ OwnG f k e w g cap cur l
theorem Row.nil (w : World) (base : Nat) : Row f k e w base (.slice none 0 0) [] := .inl ⟨rfl, rfl⟩
theorem Row.own {w : World} {base g cap : Nat} {cur : Array Value} {l : List α} (h : OwnG f k e w g cap cur l) (hb : base ≤ g) : Row f k e w base (.slice (some ⟨g, 0, none⟩) l.length cap) l := .inr ⟨g, cap, cur, rfl, hb, h⟩
theorem Row.keep {S : Nat → Prop} {w w1 : World} {base : Nat} {v : Value} {l : List α} (h : Row f k e w base v l) (fr : Fr S w w1) (hs : ∀ g, v.ownBlock = some g → ¬ S g) : Row f k e w1 base v l := by
 rcases h with h | ⟨g, cap, cur, rfl, hb, ho⟩
 ·exact .inl h
 ·exact .inr ⟨g, cap, cur, rfl, hb, OwnG.keep ho fr (hs g rfl)⟩
theorem Row.keep0 {w w1 : World} {base : Nat} {v : Value} {l : List α} (h : Row f k e w base v l) (fr : Fr0 w w1) : Row f k e w1 base v l := h.keep fr (fun _ _ h => h)
theorem Row.blk {w : World} {base : Nat} {v : Value} {l : List α} (h : Row f k e w base v l) : ∀ g, v.ownBlock = some g → base ≤ g ∧ g < w.heap.size := by
 rcases h with ⟨rfl, rfl⟩ | ⟨g, cap, cur, rfl, hb, ho⟩
 ·intro g e;simp [Value.ownBlock] at e
 ·intro g' e
  simp only [Value.ownBlock, Option.some.injEq] at e
  subst e
  exact ⟨hb, Bk.lt ho.blk⟩
theorem Row.form {w : World} {base : Nat} {v : Value} {l : List α} (h : Row f k e w base v l) : ∃ a cap, v = .slice a l.length cap ∧ l.length ≤ cap ∧ cap ≤ 9223372036854775807 ∧ RdG f k w a l ∧ (a = none → l = []) ∧ (∀ b, a = some b → v.ownBlock = some b.block ∧ b = ⟨b.block, 0, none⟩) := by
 rcases h with ⟨rfl, rfl⟩ | ⟨g, cap, cur, rfl, hb, ho⟩
 ·exact ⟨none, 0, rfl, Nat.le_refl _, by omega, RdG.nil _ _, fun _ => rfl, fun b e => by cases e⟩
 ·exact ⟨some ⟨g, 0, none⟩, cap, rfl, ho.room, ho.max, ho.rd, (fun e => by cases e), (fun b e => by cases e;exact ⟨rfl, rfl⟩)⟩
theorem Row.append1 {P : Program} (w : World) (t ty : TypeId) (i : TypeInfo) (z : Value) (bytes base : Nat) (ht : P.underlying t = some (.slice e)) (hi : P.info? e = some i) (hz : i.zero = some z)
  (hsize : i.size = k) (hby : i.bytes = bytes) (hzs : z.cells.size = k) (hk : 0 < k) (v : Value) (l : List α) (h : Row f k e w base v l) (hb : base ≤ w.heap.size) (hf : ∀ x ∈ l, (f x).length = k)
  (g1 c1 : Nat) (x : α) (hx : (f x).length = k) (hone : ∀ v ∈ f x, v.oneCell' = true) (hg1 : Bk w g1 (f x).toArray e) (h63 : l.length + 1 ≤ 9223372036854775807) (hbytes : (l.length + 1) * bytes ≤ 140737488355328) :
  ∃ v' w', (Builtin.append_ #[t, t] ty #[v, .slice (some ⟨g1, 0, none⟩) 1 c1]).run P w = .ok v' w' ∧ Row f k e w' base v' (l ++ [x]) ∧ Fr (fun i => v.ownBlock = some i) w w' ∧ (∀ g, v'.ownBlock = some g → v.ownBlock = some g ∨ w.heap.size ≤ g) := by
 rcases h with ⟨rfl, rfl⟩ | ⟨g, cap, cur, rfl, hbg, ho⟩
 ·obtain ⟨g, cap, cur, w', hr, hg, how, hfr⟩ := GApp.run_append_one (P := P) w t ty i z bytes ht hi hz hsize hby hzs hk none 0 [] rfl (RdG.nil _ _) (fun _ h => by cases h) g1 c1 x hx hg1 (by simp) (by simpa using hbytes) (fun _ => rfl)
  refine ⟨_, w', hr, .inr ⟨g, cap, cur, rfl, Nat.le_trans hb hg, how⟩, hfr.weaken (fun _ _ h => h.elim), fun g' e => .inr ?_⟩
  simp only [Value.ownBlock, Option.some.injEq] at e
  omega
 ·obtain ⟨v', w', hr, hown, hgr, -⟩ := run_append_own (P := P) w base t ty e i z k bytes ht hi hz hsize hby hzs hk _ l.length (flat f l) (own_row hf ho hbg) ⟨g1, 0, none⟩ 1 c1 (f x) (by rw [hx, Nat.one_mul]) (fun j u hu => by rw [add_form, Nat.zero_add, Bk.cell hg1, List.getElem?_toArray];exact hu) hone (by unfold maxLen;omega) hbytes hb
  have e1 : flat f l ++ f x = flat f (l ++ [x]) := by rw [flat_append, flat_cons, flat_nil, List.append_nil]
  rw [e1] at hown
  have hfl : ∀ y ∈ l ++ [x], (f y).length = k := fun y hy => by
   rcases List.mem_append.1 hy with h | h
   ·exact hf y h
   ·simp only [List.mem_cons, List.not_mem_nil, or_false] at h;subst h;exact hx
  obtain ⟨g', cap', cur', rfl, hb', ho'⟩ := own_of hfl hk hown (by simp) (by omega)
  refine ⟨_, w', hr, .inr ⟨g', cap', cur', by simp, hb', ho'⟩, ⟨hgr.os, hgr.tape, hgr.output, hgr.size, fun i hi hs => hgr.block i hi (by simp only [Value.ownBlock] at hs ⊢;exact fun e => hs e.symm)⟩, fun q q_e => ?_⟩
  have hnews : ∀ (j : Nat) (u : Value), (f x)[j]? = some u → w.cell? ((⟨g1, 0, none⟩ : Addr).add j) = some u := fun j u hu => by rw [add_form, Nat.zero_add, Bk.cell hg1, List.getElem?_toArray];exact hu
  by_cases hroom : l.length + 1 ≤ cap
  ·have h2 := run_append_room (P := P) w t ty e i ht hi g l.length cap cur ho.blk ⟨g1, 0, none⟩ 1 c1 (f x) (by rw [hx, hsize, Nat.one_mul]) hnews hone hroom (by rw [hsize, hx, ho.size, ← Nat.succ_mul];exact Nat.mul_le_mul_right _ hroom)
   have h3 := hr.symm.trans h2
   injection h3 with h4 h5
   injection h4 with h6 h7 h8
   injection h6 with h9
   injection h9 with h10
   simp only [Value.ownBlock, Option.some.injEq] at q_e ⊢
   left
   omega
  ·have h2 := run_append_grow (P := P) w t ty e i z ht hi hz ⟨g, 0, none⟩ l.length cap (flat f l) (by rw [flat_length hf, hsize]) (ho.rd.cells hf hk) ⟨g1, 0, none⟩ 1 c1 (f x) (by rw [hx, hsize, Nat.one_mul]) hnews (by omega) (by omega) (by rw [hby];exact growslice_fits (by omega) hbytes)
   have h3 := hr.symm.trans h2
   injection h3 with h4 h5
   injection h4 with h6 h7 h8
   injection h6 with h9
   injection h9 with h10
   simp only [Value.ownBlock, Option.some.injEq] at q_e ⊢
   right
   omega
end
end Go.Proofs.YtmkmpfnadcmcoaaGreatDoor.RowG
