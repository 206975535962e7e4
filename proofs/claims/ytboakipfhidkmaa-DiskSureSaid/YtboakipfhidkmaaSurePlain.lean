/- DiskSure: the plain law of what a play of writes and flushes leaves. -/
import Derived.Test.YtboakipfhidkmaaDiskRRead
import Derived.Test.YtboakipfhidkmaaDiskAct
import Derived.Test.YtboakipfhidkmaaDiskFlush
import Derived.Test.YtboakipfhidkmaaDiskLay
set_option linter.unusedVariables false
set_option linter.unusedSimpArgs false
namespace Go.Proofs.Ytboakipfhidkmaa.SurePlain
open Go Go.RowKit Go.Proofs.Ytboakipfhidkmaa.K Go.Proofs.Ytboakipfhidkmaa.EqKit Go.Proofs.Ytboakipfhidkmaa.ArrKit Go.Proofs.Ytboakipfhidkmaa.HeldKit Go.Proofs.Ytboakipfhidkmaa.GKit Go.Proofs.Ytboakipfhidkmaa.GRow Go.Proofs.Ytboakipfhidkmaa.DiskKit Go.Proofs.Ytboakipfhidkmaa.DiskAsk Go.Proofs.Ytboakipfhidkmaa.DiskForm Go.Proofs.Ytboakipfhidkmaa.DiskAct Go.Proofs.Ytboakipfhidkmaa.DiskNew Go.Proofs.Ytboakipfhidkmaa.DiskCopy Go.Proofs.Ytboakipfhidkmaa.DiskLay Go.Proofs.Ytboakipfhidkmaa.DiskFlush Go.Proofs.Ytboakipfhidkmaa.DiskRRead

def blkd (y : UInt8) : List UInt8 := y :: List.replicate 127 0
def blkS (y : UInt8) : Sec := ⟨blkd y, false, false⟩
def wr (x : Nat × UInt8) : Wri := ⟨(x.1 : Int), blkd x.2⟩
theorem blkd_len (y : UInt8) : (blkd y).length = 128 := by simp [blkd]
theorem blkS_ok (y : UInt8) : (blkS y).ok := blkd_len y
def mkD (s : List UInt8) (Cs : List (Nat × UInt8)) (f : Int) (i : Nat) : Dk := ⟨s.map blkS, Cs.map wr, if f < 0 then -1 else if f ≤ i then 0 else f - i, decide (0 ≤ f ∧ f < i)⟩
/-- all writes are of one of four sectors -/
def In4 (Cs : List (Nat × UInt8)) : Prop := ∀ x ∈ Cs, x.1 < 4
theorem start_eq {f : Int} (hf : -1 ≤ f) : armD (newD 4) f = mkD [0, 0, 0, 0] [] f 0 := by
  have h4 : newD 4 = ⟨[0, 0, 0, 0].map blkS, [], -1, false⟩ := rfl
  have hr : rightB (newD 4) 0 = true := rfl
  unfold armD mkD
  rw [if_neg (by rw [hr]; simp; omega), h4]
  have e1 : (if f < 0 then (-1 : Int) else if f ≤ ((0 : Nat) : Int) then 0 else f - ((0 : Nat) : Int)) = f := by
    split
    · omega
    · split <;> omega
  have e2 : decide (0 ≤ f ∧ f < ((0 : Nat) : Int)) = false := decide_eq_false (by omega)
  rw [e1, e2]
  rfl
theorem start_E {f : Int} (hf : -1 ≤ f) : armE (newD 4) f = 0 := by
  have hr : rightB (newD 4) 0 = true := rfl
  unfold armE
  rw [if_neg (by rw [hr]; simp; omega)]
theorem mk_ok {s : List UInt8} {Cs : List (Nat × UInt8)} {f : Int} {i : Nat} (hc : In4 Cs) (hf : (Lit.int .i64 f).wf = true) : (mkD s Cs f i).ok := by
  refine ⟨fun x hx => ?_, fun x hx => ?_, ?_⟩
  · obtain ⟨y, -, rfl⟩ := List.mem_map.1 hx; exact blkS_ok y
  · obtain ⟨y, hy, rfl⟩ := List.mem_map.1 hx
    refine ⟨blkd_len _, ?_⟩
    have := hc y hy
    show (Lit.int .i64 (y.1 : Int)).wf = true
    simp [Lit.wf, IntKind.min, IntKind.max, IntKind.signed, IntKind.bits]
    omega
  · simp only [mkD]
    simp [Lit.wf, IntKind.min, IntKind.max, IntKind.signed, IntKind.bits] at hf ⊢
    split
    · omega
    · split <;> omega
theorem mk_formed {s : List UInt8} {Cs : List (Nat × UInt8)} {f : Int} {i : Nat} (hs : s.length = 4) (hc : In4 Cs) : formedB (mkD s Cs f i) = true := by
  have hl : (mkD s Cs f i).S.length = 4 := by simp [mkD, hs]
  refine formed_yes ?_ (by omega) (by omega)
  rw [hl]
  refine List.all_eq_true.2 (fun x hx => ?_)
  obtain ⟨y, hy, rfl⟩ := List.mem_map.1 hx
  have := hc y hy
  exact thereB_true.2 ⟨by show (0 : Int) ≤ (y.1 : Int); omega, by show (y.1 : Int) < _; omega⟩
theorem mk_right {s : List UInt8} {Cs : List (Nat × UInt8)} {f : Int} {i : Nat} (hs : s.length = 4) (hc : In4 Cs) {k : Nat} (hk : k < 4) : rightB (mkD s Cs f i) (k : Int) = true := by
  have hl : (mkD s Cs f i).S.length = 4 := by simp [mkD, hs]
  rw [rightB, mk_formed hs hc, Bool.and_true]
  exact thereB_true.2 ⟨by omega, by omega⟩
/-- is the power out at the act i? -/
def out (f : Int) (i : Nat) : Bool := decide (0 ≤ f ∧ f ≤ i)
theorem mk_actE (s : List UInt8) (Cs : List (Nat × UInt8)) (f : Int) (i : Nat) : actE (mkD s Cs f i) = if out f i = true then 3 else 0 := by
  unfold actE
  have h : ((mkD s Cs f i).down = true ∨ (mkD s Cs f i).fuse = 0) ↔ out f i = true := by
    simp only [mkD, out, decide_eq_true_eq]
    split
    · omega
    · split <;> omega
  by_cases ho : out f i = true
  · rw [if_pos (h.2 ho), if_pos ho]
  · rw [if_neg (fun e => ho (h.1 e)), if_neg ho]
theorem mk_actD (s : List UInt8) (Cs : List (Nat × UInt8)) (f : Int) (i : Nat) : actD (mkD s Cs f i) = mkD s Cs f (i + 1) := by
  have hS : ∀ n, (mkD s Cs f n).S = s.map blkS := fun _ => rfl
  have hC : ∀ n, (mkD s Cs f n).C = Cs.map wr := fun _ => rfl
  have hF : ∀ n : Nat, (mkD s Cs f n).fuse = if f < 0 then -1 else if f ≤ n then 0 else f - n := fun _ => rfl
  have hD : ∀ n : Nat, (mkD s Cs f n).down = decide (0 ≤ f ∧ f < n) := fun _ => rfl
  have ext : ∀ a b : Dk, a.S = b.S → a.C = b.C → a.fuse = b.fuse → a.down = b.down → a = b := by
    rintro ⟨a1, a2, a3, a4⟩ ⟨b1, b2, b3, b4⟩ h1 h2 h3 h4
    simp only at h1 h2 h3 h4
    rw [h1, h2, h3, h4]
  have hFs := hF i
  have hFt := hF (i + 1)
  have hDs := hD i
  have hDt := hD (i + 1)
  generalize ha : mkD s Cs f i = a at *
  generalize hb : mkD s Cs f (i + 1) = b at *
  have e1 : a.S = b.S := by rw [← ha, ← hb]; rfl
  have e2 : a.C = b.C := by rw [← ha, ← hb]; rfl
  unfold actD
  by_cases h0 : f < 0
  · rw [if_pos h0] at hFs hFt
    rw [decide_eq_false (by omega)] at hDs hDt
    rw [if_neg (by rw [hDs]; simp), if_neg (by omega), if_neg (by omega)]
    exact ext _ _ e1 e2 (by rw [hFs, hFt]) (by rw [hDs, hDt])
  · rw [if_neg h0] at hFs hFt
    by_cases h1 : f < (i : Int)
    · rw [decide_eq_true (by omega)] at hDs hDt
      rw [if_pos (by omega)] at hFs hFt
      rw [if_pos hDs]
      exact ext _ _ e1 e2 (by rw [hFs, hFt]) (by rw [hDs, hDt])
    · rw [decide_eq_false (by omega)] at hDs
      rw [if_neg (by rw [hDs]; simp)]
      by_cases h2 : f = (i : Int)
      · rw [decide_eq_true (by omega)] at hDt
        rw [if_pos (by omega)] at hFs hFt
        rw [if_pos hFs]
        exact ext _ _ e1 e2 (by show a.fuse = _; rw [hFs, hFt]) (by rw [hDt])
      · rw [decide_eq_false (by omega)] at hDt
        rw [if_neg (by omega)] at hFs
        rw [if_neg (by omega), if_pos (by omega)]
        refine ext _ _ e1 e2 ?_ (by show a.down = _; rw [hDs, hDt])
        show a.fuse - 1 = _
        rw [hFs, hFt]
        split <;> omega
theorem mk_sec {s : List UInt8} {Cs : List (Nat × UInt8)} {f : Int} {i k : Nat} (hs : s.length = 4) (hk : k < 4) : secAt (mkD s Cs f i) (k : Int) = blkS (s[k]'(by omega)) := by
  rw [secAt, Int.toNat_natCast, List.getD_eq_getElem?_getD]
  simp only [mkD]
  rw [List.getElem?_map, List.getElem?_eq_getElem (by omega)]; rfl
theorem mk_writeE {s : List UInt8} {Cs : List (Nat × UInt8)} {f : Int} {i k : Nat} (hs : s.length = 4) (hc : In4 Cs) (hk : k < 4) : writeE (mkD s Cs f i) (k : Int) = if out f i = true then 3 else 0 := by
  unfold writeE
  rw [if_neg (by rw [mk_right hs hc hk]; simp), mk_actE, mk_sec hs hk]
  by_cases ho : out f i = true
  · rw [if_pos ho, if_pos rfl]
  · rw [if_neg ho, if_neg (by simp), if_neg (by simp [blkS])]
theorem mk_writeD {s : List UInt8} {Cs : List (Nat × UInt8)} {f : Int} {i k : Nat} (hs : s.length = 4) (hc : In4 Cs) (hk : k < 4) (y : UInt8) : writeD (mkD s Cs f i) (k : Int) (blkd y) = if out f i = true then mkD s Cs f (i + 1) else mkD s (Cs ++ [(k, y)]) f (i + 1) := by
  unfold writeD
  rw [if_neg (by rw [mk_right hs hc hk]; simp), mk_actE, mk_sec hs hk, mk_actD]
  by_cases ho : out f i = true
  · rw [if_pos ho, if_pos rfl, if_pos ho]
  · rw [if_neg ho, if_neg (by simp), if_neg (by simp [blkS]), if_neg ho]
    simp [mkD, wr]
theorem in4_snoc {Cs : List (Nat × UInt8)} (hc : In4 Cs) {k : Nat} (hk : k < 4) (y : UInt8) : In4 (Cs ++ [(k, y)]) := fun x hx => by
  rcases List.mem_append.1 hx with h | h
  · exact hc x h
  · simp only [List.mem_cons, List.not_mem_nil, or_false] at h; subst h; exact hk
theorem in4_nil : In4 [] := fun x hx => by cases hx
/-- what lies behind k of the writes -/
def foldK (s : List UInt8) (Cs : List (Nat × UInt8)) (keep : Nat → Bool) : Nat → List UInt8
  | 0 => s
  | n + 1 => match Cs[n]? with
    | some x => if keep n then (foldK s Cs keep n).set x.1 x.2 else foldK s Cs keep n
    | none => foldK s Cs keep n
theorem foldK_len (s : List UInt8) (Cs : List (Nat × UInt8)) (keep : Nat → Bool) (n : Nat) : (foldK s Cs keep n).length = s.length := by
  induction n with
  | zero => rfl
  | succ n ih =>
    simp only [foldK]
    split
    · split
      · rw [List.length_set]; exact ih
      · exact ih
    · exact ih
theorem foldK_succ {s : List UInt8} {Cs : List (Nat × UInt8)} {keep : Nat → Bool} {n : Nat} (h : n < Cs.length) : foldK s Cs keep (n + 1) = if keep n then (foldK s Cs keep n).set Cs[n].1 Cs[n].2 else foldK s Cs keep n := by
  show (match Cs[n]? with | some x => _ | none => _) = _
  rw [List.getElem?_eq_getElem h]
theorem laid_fold {s : List UInt8} {Cs : List (Nat × UInt8)} (hs : s.length = 4) (hc : In4 Cs) (keep : Nat → Bool) : ∀ n, n ≤ Cs.length → laid (s.map blkS) (Cs.map wr) keep n = (foldK s Cs keep n).map blkS := by
  intro n
  induction n with
  | zero => intro _; rfl
  | succ n ih =>
    intro hn
    rw [laid_succ (by rw [List.length_map]; omega), ih (by omega), foldK_succ (by omega)]
    have hm := hc _ (List.getElem_mem (show n < Cs.length by omega))
    by_cases hk : keep n = true
    · rw [if_pos hk, if_pos hk, List.getElem_map]
      show (List.map blkS (foldK s Cs keep n)).set ((Cs[n].1 : Int)).toNat _ = _
      rw [Int.toNat_natCast, List.map_set]
      congr 1
      show ({ (List.map blkS (foldK s Cs keep n)).getD ((Cs[n].1 : Int)).toNat Zs with data := blkd Cs[n].2, nr := false } : Sec) = blkS Cs[n].2
      rw [Int.toNat_natCast, List.getD_eq_getElem?_getD, List.getElem?_map, List.getElem?_eq_getElem (by rw [foldK_len]; omega)]
      rfl
    · rw [if_neg hk, if_neg hk]
def later (Cs : List (Nat × UInt8)) (k : Nat) : List UInt8 := (Cs.filter fun x => x.1 == k).map (·.2)
theorem later_nil (k : Nat) : later [] k = [] := rfl
theorem later_snoc (Cs : List (Nat × UInt8)) (j : Nat) (y : UInt8) (k : Nat) : later (Cs ++ [(j, y)]) k = if j = k then later Cs k ++ [y] else later Cs k := by
  unfold later
  rw [List.filter_append, List.map_append]
  by_cases h : j = k
  · rw [if_pos h]; simp [h]
  · rw [if_neg h]; simp [h]
theorem later_len (Cs : List (Nat × UInt8)) (k : Nat) : (later Cs k).length ≤ Cs.length := by
  rw [later, List.length_map]; exact List.length_filter_le _ _
/-- each sector has what was sure, or what a later write laid there -/
theorem foldK_in {s : List UInt8} {Cs : List (Nat × UInt8)} (keep : Nat → Bool) : ∀ n, n ≤ Cs.length → ∀ k z, (foldK s Cs keep n)[k]? = some z → s[k]? = some z ∨ z ∈ later Cs k := by
  intro n
  induction n with
  | zero => intro _ k z h; exact .inl h
  | succ n ih =>
    intro hn k z h
    rw [foldK_succ (by omega)] at h
    by_cases hk : keep n = true
    · rw [if_pos hk, List.getElem?_set] at h
      by_cases e : Cs[n].1 = k
      · rw [if_pos e] at h
        split at h
        · right
          obtain rfl := Option.some.inj h
          exact List.mem_map.2 ⟨Cs[n], List.mem_filter.2 ⟨List.getElem_mem (by omega), by simpa using e⟩, rfl⟩
        · cases h
      · rw [if_neg e] at h
        exact ih (by omega) k z h
    · rw [if_neg hk] at h
      exact ih (by omega) k z h
def lastOr (l : List UInt8) (z : UInt8) : UInt8 := l.getLast?.getD z
theorem lastOr_nil (z : UInt8) : lastOr [] z = z := rfl
theorem lastOr_at {l : List UInt8} (h : 0 < l.length) (z : UInt8) : lastOr l z = l[l.length - 1]'(by omega) := by
  rw [lastOr, List.getLast?_eq_getElem?, List.getElem?_eq_getElem (by omega)]; rfl
theorem lastOr_snoc (l : List UInt8) (y z : UInt8) : lastOr (l ++ [y]) z = y := by simp [lastOr]
/-- what a flush makes sure -/
def sureL (s : List UInt8) (Cs : List (Nat × UInt8)) : List UInt8 := foldK s Cs (fun _ => true) Cs.length
theorem take_later {Cs : List (Nat × UInt8)} {n : Nat} (h : n < Cs.length) (k : Nat) : later (Cs.take (n + 1)) k = if Cs[n].1 = k then later (Cs.take n) k ++ [Cs[n].2] else later (Cs.take n) k := by
  rw [List.take_succ_eq_append_getElem h]; exact later_snoc _ _ _ _
theorem foldK_all {s : List UInt8} {Cs : List (Nat × UInt8)} (hs : s.length = 4) (hc : In4 Cs) : ∀ n, n ≤ Cs.length → ∀ k (hk : k < 4), (foldK s Cs (fun _ => true) n)[k]? = some (lastOr (later (Cs.take n) k) (s[k]'(by omega))) := by
  intro n
  induction n with
  | zero => intro _ k hk; rw [foldK, List.take_zero, later_nil, lastOr_nil, List.getElem?_eq_getElem]
  | succ n ih =>
    intro hn k hk
    have hm := hc _ (List.getElem_mem (show n < Cs.length by omega))
    rw [foldK_succ (by omega), if_pos rfl, take_later (by omega), List.getElem?_set, foldK_len]
    by_cases e : Cs[n].1 = k
    · rw [if_pos e, if_pos (by omega), if_pos e, lastOr_snoc]
    · rw [if_neg e, if_neg e]; exact ih (by omega) k hk
theorem sureL_len {s : List UInt8} (Cs : List (Nat × UInt8)) (hs : s.length = 4) : (sureL s Cs).length = 4 := by rw [sureL, foldK_len]; exact hs
theorem sureL_at {s : List UInt8} {Cs : List (Nat × UInt8)} (hs : s.length = 4) (hc : In4 Cs) {k : Nat} (hk : k < 4) : (sureL s Cs)[k]? = some (lastOr (later Cs k) (s[k]'(by omega))) := by
  have := foldK_all hs hc Cs.length (Nat.le_refl _) k hk
  rwa [List.take_length] at this
theorem mk_flushE {s : List UInt8} {Cs : List (Nat × UInt8)} {f : Int} {i : Nat} (hs : s.length = 4) (hc : In4 Cs) : flushE (mkD s Cs f i) = if out f i = true then 3 else 0 := by
  unfold flushE
  rw [if_neg (by rw [right0, mk_formed hs hc]; simp), mk_actE]
theorem mk_flushD {s : List UInt8} {Cs : List (Nat × UInt8)} {f : Int} {i : Nat} (hs : s.length = 4) (hc : In4 Cs) : flushD (mkD s Cs f i) = if out f i = true then mkD s Cs f (i + 1) else mkD (sureL s Cs) [] f (i + 1) := by
  unfold flushD
  rw [if_neg (by rw [right0, mk_formed hs hc]; simp), mk_actE, mk_actD]
  by_cases ho : out f i = true
  · rw [if_pos ho, if_pos rfl, if_pos ho]
  · rw [if_neg ho, if_neg (by simp), if_neg ho]
    simp only [layD, mkD]
    rw [List.length_map, laid_fold hs hc _ _ (Nat.le_refl _)]
    rfl
theorem mk_crashE {s : List UInt8} {Cs : List (Nat × UInt8)} {f : Int} {i : Nat} (hs : s.length = 4) (hc : In4 Cs) : crashE (mkD s Cs f i) = 0 := by
  unfold crashE
  rw [if_neg (by rw [right0, mk_formed hs hc]; simp)]
/-- what a crash leaves -/
def left (s : List UInt8) (Cs : List (Nat × UInt8)) (keep : List Bool) : List UInt8 := foldK s Cs (fun i => keep.getD i false) Cs.length
theorem left_len {s : List UInt8} (Cs : List (Nat × UInt8)) (keep : List Bool) (hs : s.length = 4) : (left s Cs keep).length = 4 := by rw [left, foldK_len]; exact hs
theorem mk_crashD {s : List UInt8} {Cs : List (Nat × UInt8)} {f : Int} {i : Nat} (hs : s.length = 4) (hc : In4 Cs) (keep : List Bool) : crashD (mkD s Cs f i) keep = mkD (left s Cs keep) [] (-1) 0 := by
  unfold crashD
  rw [if_neg (by rw [right0, mk_formed hs hc]; simp)]
  simp only [layD, mkD]
  rw [List.length_map, laid_fold hs hc _ _ (Nat.le_refl _)]
  rfl
theorem mk_read {s : List UInt8} (hs : s.length = 4) {k : Nat} (hk : k < 4) : readX (mkD s [] (-1) 0) (k : Int) = (blkd (s[k]'(by omega)), 0) := by
  have := readX_data (d := mkD s [] (-1) 0) (a := (k : Int)) (mk_right hs in4_nil hk) rfl rfl (by rw [mk_sec hs hk]; rfl)
  rw [this, mk_sec hs hk]; rfl
theorem left_in {s : List UInt8} {Cs : List (Nat × UInt8)} (hs : s.length = 4) (keep : List Bool) {k : Nat} (hk : k < 4) : (left s Cs keep)[k]'(by rw [left_len Cs keep hs]; exact hk) = s[k]'(by omega) ∨ (left s Cs keep)[k]'(by rw [left_len Cs keep hs]; exact hk) ∈ later Cs k := by
  rcases foldK_in (s := s) (Cs := Cs) (fun i => keep.getD i false) Cs.length (Nat.le_refl _) k _ (List.getElem?_eq_getElem (show k < (left s Cs keep).length by rw [left_len Cs keep hs]; exact hk)) with h | h
  · left
    rw [List.getElem?_eq_getElem (by omega)] at h
    exact (Option.some.inj h).symm
  · exact .inr h

end Go.Proofs.Ytboakipfhidkmaa.SurePlain
