/-
  Records and their ranks in plain data, and the plain laws of ranks.
-/
import Derived.Test.YtkmoaeckabjgnaaDoorKPlain
namespace Go.Proofs.YtkmoaeckabjgnaaDoor.V
set_option linter.unusedVariables false
set_option linter.unusedSimpArgs false
open Go Go.RowKit

structure Trm where
  op : ByteArray
  ver : Ver
structure Spc where
  chan : ByteArray
  name : ByteArray
  rows : List (List Trm)
  build : ByteArray
  num : Int
structure Rcd where
  chan : ByteArray
  file : ByteArray
  name : ByteArray
  text : ByteArray
  ver : Ver
  build : ByteArray
  num : Int
  time : Int
  deps : List Spc
  cons : List Spc
  feats : List ByteArray
structure Rk where
  v : Int
  n : Int
  c : Int
  t : Int
def noRcd : Rcd := ⟨ByteArray.empty, ByteArray.empty, ByteArray.empty, ByteArray.empty, ⟨0, [], []⟩, ByteArray.empty, 0, 0, [], [], []⟩
def recAt (xs : List Rcd) (i : Nat) : Rcd := xs.getD i noRcd
def nmE (a b : ByteArray) : Bool := a.data.toList == b.data.toList
def verE (a b : Rcd) : Bool := cmpVer a.ver b.ver == 0
def newer (r x : Rcd) : Bool := decide (0 < cmpVer x.ver r.ver)
def greater (r x : Rcd) : Bool := decide (r.num < x.num) && verE x r
def later (r x : Rcd) : Bool := decide (r.time < x.time) && (x.num == r.num) && verE x r
def eqNum (a b : Rcd) : Bool := a.num == b.num
def eqTime (a b : Rcd) : Bool := a.time == b.time
def baseP (xs : List Rcd) (on : List Bool) (nm : ByteArray) (i : Nat) : Bool := on.getD i false && nmE (recAt xs i).name nm
def onP (xs : List Rcd) (on : List Bool) (nm : ByteArray) (A : Rcd → Bool) (i : Nat) : Bool := baseP xs on nm i && A (recAt xs i)
def eqP (xs : List Rcd) (E : Rcd → Rcd → Bool) (i j : Nat) : Bool := E (recAt xs i) (recAt xs j)
/-- How many different ones are found. -/
def diffL (xs : List Rcd) (on : List Bool) (nm : ByteArray) (A : Rcd → Bool) (E : Rcd → Rcd → Bool) : Nat := (fnd (onP xs on nm A) (eqP xs E) xs.length).length
def rankV (xs : List Rcd) (on : List Bool) (r : Rcd) : Nat := diffL xs on r.name (newer r) verE
def rankN (xs : List Rcd) (on : List Bool) (r : Rcd) : Nat := diffL xs on r.name (greater r) eqNum
def rankT (xs : List Rcd) (on : List Bool) (r : Rcd) : Nat := diffL xs on r.name (later r) eqTime

theorem nmE_refl (a : ByteArray) : nmE a a = true := by simp [nmE]
theorem nmE_eq {a b : ByteArray} (h : nmE a b = true) (c : ByteArray) : nmE c a = nmE c b := by
  have : a.data.toList = b.data.toList := by simpa [nmE] using h
  unfold nmE
  rw [this]
theorem verE_iff {a b : Rcd} : verE a b = true ↔ cmpVer a.ver b.ver = 0 := by simp [verE]
theorem verE_refl (a : Rcd) : verE a a = true := verE_iff.2 (ordVer.refl a.ver)
theorem verE_symm {a b : Rcd} (h : verE a b = true) : verE b a = true := by
  rw [verE_iff] at *
  have := ordVer.anti a.ver b.ver
  omega
theorem verE_cmp {a b : Rcd} (h : verE a b = true) (c : Ver) : cmpVer a.ver c = cmpVer b.ver c := by
  have h1 := verE_iff.1 h
  have h2 := ordVer.anti a.ver b.ver
  have r1 := ordVer.range a.ver c
  have r2 := ordVer.range b.ver c
  have l1 := ordVer.le b.ver a.ver c (by omega)
  have l2 := ordVer.le a.ver b.ver c (by omega)
  have a1 := ordVer.anti a.ver c
  have a2 := ordVer.anti b.ver c
  have l3 := fun h => ordVer.le c a.ver b.ver h (by omega)
  have l4 := fun h => ordVer.le c b.ver a.ver h (by omega)
  omega
theorem verE_trans {a b c : Rcd} (h : verE a b = true) (k : verE b c = true) : verE a c = true := by
  rw [verE_iff, verE_cmp h]
  exact verE_iff.1 k
theorem newer_eq {r x y : Rcd} (h : verE x y = true) : newer r x = newer r y := by unfold newer; rw [verE_cmp h]

theorem diffL_cnt (xs : List Rcd) (on : List Bool) (nm : ByteArray) (A : Rcd → Bool) (E : Rcd → Rcd → Bool) (hr : ∀ a, E a a = true) (ht : ∀ a b c, E a b = true → E b c = true → E a c = true) :
    diffL xs on nm A E = cnt (isFirst (onP xs on nm A) (eqP xs E)) xs.length :=
  fnd_len (P := onP xs on nm A) (E := eqP xs E) (fun i _ => hr (recAt xs i)) (fun a b c _ _ _ h k => ht (recAt xs a) (recAt xs b) (recAt xs c) h k) xs.length
theorem rankV_cnt (xs : List Rcd) (on : List Bool) (r : Rcd) : rankV xs on r = cnt (isFirst (onP xs on r.name (newer r)) (eqP xs verE)) xs.length :=
  diffL_cnt _ _ _ _ _ verE_refl (fun _ _ _ => verE_trans)
theorem rankN_cnt (xs : List Rcd) (on : List Bool) (r : Rcd) : rankN xs on r = cnt (isFirst (onP xs on r.name (greater r)) (eqP xs eqNum)) xs.length :=
  diffL_cnt _ _ _ _ _ (fun a => by simp [eqNum]) (fun a b c h k => by simp [eqNum] at *; omega)
theorem rankT_cnt (xs : List Rcd) (on : List Bool) (r : Rcd) : rankT xs on r = cnt (isFirst (onP xs on r.name (later r)) (eqP xs eqTime)) xs.length :=
  diffL_cnt _ _ _ _ _ (fun a => by simp [eqTime]) (fun a b c h k => by simp [eqTime] at *; omega)
theorem diffL_le (xs : List Rcd) (on : List Bool) (nm : ByteArray) (A : Rcd → Bool) (E : Rcd → Rcd → Bool) : diffL xs on nm A E ≤ xs.length := fnd_len_le _

/-- Of two parts the wider one has more that are different. -/
theorem part_lt {B Q1 Q2 : Nat → Bool} {E : Nat → Nat → Bool} (hr : ∀ i, B i = true → E i i = true) (ht : ∀ a b c, B a = true → B b = true → B c = true → E a b = true → E b c = true → E a c = true)
    (hs : ∀ a b, E a b = true → E b a = true) (h1 : ∀ i, Q1 i = true → Q2 i = true) (h2 : ∀ i, Q2 i = true → B i = true) (c1 : ∀ k i, B k = true → Q1 i = true → E k i = true → Q1 k = true)
    (c2 : ∀ k i, B k = true → Q2 i = true → E k i = true → Q2 k = true) {n i : Nat} (hi : i < n) (hq : Q2 i = true) (hn : Q1 i = false) : cnt (isFirst Q1 E) n < cnt (isFirst Q2 E) n := by
  rw [cnt_congr n (fun j _ => first_part (P := B) (Q := Q1) (E := E) (fun i hi => h2 i (h1 i hi)) c1 j), cnt_congr n (fun j _ => first_part (P := B) (Q := Q2) (E := E) h2 c2 j)]
  obtain ⟨j, hj, hf, he⟩ := first_of hr ht n i hi (h2 i hq)
  have hB := (isFirst_iff.1 hf).1
  refine cnt_lt n (fun k _ hk => ?_) ⟨j, by omega, ?_, ?_⟩
  · rw [Bool.and_eq_true] at *
    exact ⟨h1 k hk.1, hk.2⟩
  · rw [c2 j i hB hq he, hf]; rfl
  · cases hc : Q1 j with
    | false => rfl
    | true => rw [c1 i j (h2 i hq) hc (hs _ _ he)] at hn; cases hn

section
variable {xs : List Rcd} {on : List Bool} {i k : Nat}
theorem base_name {a b : ByteArray} (h : nmE a b = true) : baseP xs on a = baseP xs on b := by
  funext j
  unfold baseP
  rw [nmE_eq h]
theorem baseP_at (hi : on.getD i false = true) {nm : ByteArray} (h : nmE (recAt xs i).name nm = true) : baseP xs on nm i = true := by
  unfold baseP
  rw [hi, h]
  rfl
/-- The newer one of a name has the lesser rank. -/
theorem rankV_lt (hi : i < xs.length) (oi : on.getD i false = true) (hn : nmE (recAt xs i).name (recAt xs k).name = true) (hc : 0 < cmpVer (recAt xs i).ver (recAt xs k).ver) :
    rankV xs on (recAt xs i) < rankV xs on (recAt xs k) := by
  rw [rankV_cnt, rankV_cnt]
  refine part_lt (B := baseP xs on (recAt xs k).name) (fun a _ => verE_refl (recAt xs a)) (fun a b c _ _ _ h h' => verE_trans (a := recAt xs a) (b := recAt xs b) (c := recAt xs c) h h') (fun a b h => verE_symm (a := recAt xs a) (b := recAt xs b) h) ?_ ?_ ?_ ?_ hi ?_ ?_
  · intro j hj
    unfold onP at *
    rw [base_name hn, Bool.and_eq_true] at hj
    rw [hj.1, Bool.true_and]
    have h1 : 0 < cmpVer (recAt xs j).ver (recAt xs i).ver := by simpa [newer] using hj.2
    have r1 := ordVer.range (recAt xs j).ver (recAt xs k).ver
    have a1 := ordVer.anti (recAt xs j).ver (recAt xs k).ver
    have a2 := ordVer.anti (recAt xs i).ver (recAt xs k).ver
    have a3 := ordVer.anti (recAt xs j).ver (recAt xs i).ver
    have l1 := fun h => ordVer.le (recAt xs k).ver (recAt xs i).ver (recAt xs j).ver h
    have l2 := fun h => ordVer.le (recAt xs j).ver (recAt xs k).ver (recAt xs i).ver h
    show decide (0 < _) = true
    simp only [decide_eq_true_eq]
    omega
  · intro j hj
    unfold onP at hj
    rw [Bool.and_eq_true] at hj
    exact hj.1
  · intro a b hB hq he
    unfold onP at *
    rw [base_name hn] at *
    rw [Bool.and_eq_true] at hq
    rw [hB, newer_eq he, hq.2]
    rfl
  · intro a b hB hq he
    unfold onP at *
    rw [Bool.and_eq_true] at hq
    rw [hB, newer_eq he, hq.2]
    rfl
  · unfold onP
    rw [baseP_at oi hn]
    simpa [newer] using hc
  · unfold onP newer
    rw [ordVer.refl]
    simp
theorem rankV_eq (hn : nmE (recAt xs i).name (recAt xs k).name = true) (hc : cmpVer (recAt xs i).ver (recAt xs k).ver = 0) :
    rankV xs on (recAt xs i) = rankV xs on (recAt xs k) := by
  rw [rankV_cnt, rankV_cnt]
  congr 2
  funext j
  unfold onP
  rw [base_name hn]
  have h1 := verE_cmp (verE_iff.2 hc) (recAt xs j).ver
  have a1 := ordVer.anti (recAt xs i).ver (recAt xs j).ver
  have a2 := ordVer.anti (recAt xs k).ver (recAt xs j).ver
  unfold newer
  rw [show cmpVer (recAt xs j).ver (recAt xs i).ver = cmpVer (recAt xs j).ver (recAt xs k).ver by omega]
theorem verE_same (hc : cmpVer (recAt xs i).ver (recAt xs k).ver = 0) (x : Rcd) : verE x (recAt xs i) = verE x (recAt xs k) := by
  rw [Bool.eq_iff_iff]
  exact ⟨fun h => verE_trans h (verE_iff.2 hc), fun h => verE_trans h (verE_symm (verE_iff.2 hc))⟩
theorem rankN_lt (hi : i < xs.length) (oi : on.getD i false = true) (hn : nmE (recAt xs i).name (recAt xs k).name = true) (hc : cmpVer (recAt xs i).ver (recAt xs k).ver = 0) (hm : (recAt xs k).num < (recAt xs i).num) :
    rankN xs on (recAt xs i) < rankN xs on (recAt xs k) := by
  rw [rankN_cnt, rankN_cnt]
  have hE : ∀ a b : Nat, eqP xs eqNum a b = true ↔ (recAt xs a).num = (recAt xs b).num := fun a b => by simp [eqP, eqNum]
  have hQ : ∀ (r : Rcd) (j : Nat), onP xs on r.name (greater r) j = true ↔ baseP xs on r.name j = true ∧ r.num < (recAt xs j).num ∧ verE (recAt xs j) r = true := fun r j => by
    simp [onP, greater, Bool.and_eq_true]
  refine part_lt (B := fun j => baseP xs on (recAt xs k).name j && verE (recAt xs j) (recAt xs k)) (fun a _ => (hE a a).2 rfl) (fun a b c _ _ _ h h' => (hE a c).2 (((hE a b).1 h).trans ((hE b c).1 h'))) (fun a b h => (hE b a).2 ((hE a b).1 h).symm) ?_ ?_ ?_ ?_ hi ?_ ?_
  · intro j hj
    rw [hQ, base_name hn, verE_same hc] at hj
    rw [hQ]
    exact ⟨hj.1, by omega, hj.2.2⟩
  · intro j hj
    rw [hQ] at hj
    rw [hj.1, hj.2.2]; rfl
  · intro a b hB hq he
    rw [Bool.and_eq_true] at hB
    rw [hQ, base_name hn, verE_same hc] at *
    rw [hE] at he
    exact ⟨hB.1, by omega, hB.2⟩
  · intro a b hB hq he
    rw [Bool.and_eq_true] at hB
    rw [hQ] at *
    rw [hE] at he
    exact ⟨hB.1, by omega, hB.2⟩
  · rw [hQ]
    exact ⟨baseP_at oi hn, hm, verE_iff.2 hc⟩
  · cases h : onP xs on (recAt xs i).name (greater (recAt xs i)) i with
    | false => rfl
    | true => rw [hQ] at h; omega
theorem rankT_lt (hi : i < xs.length) (oi : on.getD i false = true) (hn : nmE (recAt xs i).name (recAt xs k).name = true) (hc : cmpVer (recAt xs i).ver (recAt xs k).ver = 0) (he : (recAt xs i).num = (recAt xs k).num) (hm : (recAt xs k).time < (recAt xs i).time) :
    rankT xs on (recAt xs i) < rankT xs on (recAt xs k) := by
  rw [rankT_cnt, rankT_cnt]
  have hE : ∀ a b : Nat, eqP xs eqTime a b = true ↔ (recAt xs a).time = (recAt xs b).time := fun a b => by simp [eqP, eqTime]
  have hQ : ∀ (r : Rcd) (j : Nat), onP xs on r.name (later r) j = true ↔ baseP xs on r.name j = true ∧ r.time < (recAt xs j).time ∧ (recAt xs j).num = r.num ∧ verE (recAt xs j) r = true := fun r j => by
    simp [onP, later, Bool.and_eq_true, and_assoc]
  refine part_lt (B := fun j => baseP xs on (recAt xs k).name j && (((recAt xs j).num == (recAt xs k).num) && verE (recAt xs j) (recAt xs k))) (fun a _ => (hE a a).2 rfl) (fun a b c _ _ _ h h' => (hE a c).2 (((hE a b).1 h).trans ((hE b c).1 h'))) (fun a b h => (hE b a).2 ((hE a b).1 h).symm) ?_ ?_ ?_ ?_ hi ?_ ?_
  · intro j hj
    rw [hQ, base_name hn, verE_same hc, he] at hj
    rw [hQ]
    exact ⟨hj.1, by omega, hj.2.2⟩
  · intro j hj
    rw [hQ] at hj
    rw [hj.1, hj.2.2.2, hj.2.2.1]; simp
  · intro a b hB hq he'
    rw [Bool.and_eq_true, Bool.and_eq_true, beq_iff_eq] at hB
    rw [hQ, base_name hn, verE_same hc, he] at *
    rw [hE] at he'
    exact ⟨hB.1, by omega, hB.2⟩
  · intro a b hB hq he'
    rw [Bool.and_eq_true, Bool.and_eq_true, beq_iff_eq] at hB
    rw [hQ] at *
    rw [hE] at he'
    exact ⟨hB.1, by omega, hB.2⟩
  · rw [hQ]
    exact ⟨baseP_at oi hn, hm, he, verE_iff.2 hc⟩
  · cases h : onP xs on (recAt xs i).name (later (recAt xs i)) i with
    | false => rfl
    | true => rw [hQ] at h; omega
end
end Go.Proofs.YtkmoaeckabjgnaaDoor.V
