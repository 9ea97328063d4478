/- What functions of the disk, and of the laws over it, do. Conditions: those that each theorem names. -/
import Derived.Test.YtanknokhbfijdaaD14
set_option linter.unusedVariables false
set_option linter.unusedSimpArgs false
namespace Go.Proofs.Ytanknokhbfijdaa
open Go.Ab
set_option maxRecDepth 100000
set_option maxHeartbeats 1000000

/-! ### The order of names -/
theorem lt_irr : ∀ x : List UInt8, strLt x x = false
  | [] => rfl
  | a :: x => by
    have ih := lt_irr x
    unfold strLt at ih ⊢
    simp only [Op.bytesLess]
    simp [UInt8.lt_irrefl, ih]
theorem lt_tri : ∀ x y : List UInt8, strLt x y = true ∨ x = y ∨ strLt y x = true
  | [], [] => .inr (.inl rfl)
  | [], _ :: _ => .inl rfl
  | _ :: _, [] => .inr (.inr rfl)
  | a :: x, b :: y => by
    have ih := lt_tri x y
    unfold strLt at ih ⊢
    simp only [Op.bytesLess]
    by_cases h1 : a < b
    · left; simp [h1]
    · by_cases h2 : b < a
      · right; right; simp [h2]
      · have hab : a = b := by
          refine UInt8.toNat_inj.1 ?_
          exact Nat.le_antisymm (UInt8.le_iff_toNat_le.1 (UInt8.not_lt.1 h2)) (UInt8.le_iff_toNat_le.1 (UInt8.not_lt.1 h1))
        subst hab
        rcases ih with q | q | q
        · left; simp [q]
        · right; left; rw [q]
        · right; right; simp [q]
theorem lt_trans' : ∀ {x y z : List UInt8}, strLt x y = true → strLt y z = true → strLt x z = true
  | [], [], _, h, _ => by cases h
  | [], _ :: _, [], _, h => by cases h
  | [], _ :: _, _ :: _, _, _ => rfl
  | _ :: _, [], _, h, _ => by cases h
  | _ :: _, _ :: _, [], _, h => by cases h
  | a :: x, b :: y, c :: z, h1, h2 => by
    have ih := @lt_trans' x y z
    unfold strLt at ih h1 h2 ⊢
    simp only [Op.bytesLess] at h1 h2 ⊢
    simp only [Bool.or_eq_true, Bool.and_eq_true, decide_eq_true_eq, beq_iff_eq] at h1 h2 ⊢
    rcases h1 with h1 | ⟨h1, h1'⟩
    · rcases h2 with h2 | ⟨h2, h2'⟩
      · exact .inl (UInt8.lt_trans h1 h2)
      · subst h2; exact .inl h1
    · subst h1
      rcases h2 with h2 | ⟨h2, h2'⟩
      · exact .inl h2
      · exact .inr ⟨h2, ih h1' h2'⟩
theorem lt_asymm' {x y : List UInt8} (h : strLt x y = true) : strLt y x = false := by
  cases e : strLt y x with
  | false => rfl
  | true => have := lt_trans' h e; rw [lt_irr] at this; cases this
theorem lt_of_list {x y : List UInt8} (h : x < y) : strLt x y = true := by
  have h' : List.Lex (· < ·) x y := h
  clear h
  induction h' with
  | nil => rfl
  | rel h => unfold strLt; simp only [Op.bytesLess]; simp [h]
  | cons h ih => unfold strLt at ih ⊢; simp only [Op.bytesLess]; simp [ih]
theorem leB_of_lt {x y : List UInt8} (h : strLt x y = true) : leB x y = true := by
  simp only [leB, decide_eq_true_eq]
  refine Classical.byContradiction fun hn => ?_
  have := lt_of_list (List.not_le.1 hn)
  rw [lt_asymm' h] at this
  cases this
def SortN (l : List (List UInt8)) : Prop := l.Pairwise (fun a b => strLt a b = true)
theorem SortN.nodup {l : List (List UInt8)} (h : SortN l) : l.Nodup := h.imp fun {a b} hab e => by subst e; rw [lt_irr] at hab; cases hab

/-! ### The document's disk, plain -/
structure Rf where
  files : List PF
  quota : Int
  steps : Int
  power : Int
  off : Bool
def rStep (r : Rf) : Rf := { r with steps := r.steps + 1, power := (if 0 < r.power then r.power - 1 else r.power), off := r.off || (decide (0 < r.power) && decide (r.power - 1 = 0)) }
def rAt (l : List PF) (name : List UInt8) : Option Nat := l.findIdx? fun p => decide (p.name = name)
def rUsed (l : List PF) : Nat := (l.map (·.bytes.length)).sum
def insP (x : PF) : List PF → List PF
  | [] => [x]
  | p :: l => if strLt p.name x.name = true then p :: insP x l else x :: p :: l
def dropN' (l : List PF) (name : List UInt8) : List PF := l.filter fun p => decide (p.name ≠ name)
def modN (l : List PF) (name : List UInt8) (g : PF → PF) : List PF := l.map fun p => if p.name = name then g p else p
def rFull (r : Rf) (n : Nat) (there : Bool) : Bool := (decide (0 < n) && decide (IntKind.i64.wrap (r.quota - n) < rUsed r.files)) || decide (r.quota < rUsed r.files) || (!there && decide (50 ≤ r.files.length))
def hasN (l : List PF) (name : List UInt8) : Bool := l.any fun p => decide (p.name = name)
def rAppendE (r : Rf) (name b : List UInt8) : Int := bif (rStep r).off then 212 else bif okName name then (bif rFull r b.length (hasN r.files name) then 211 else 0) else 210
def rAppendM (r : Rf) (name b : List UInt8) : Rf := bif rAppendE r name b == 0 then
    { rStep r with files := modN (bif hasN r.files name then r.files else insP ⟨name, [], 0⟩ r.files) name fun p => { p with bytes := p.bytes ++ b } }
  else rStep r
def rErr (r : Rf) (name : List UInt8) : Int := bif (rStep r).off then 212 else bif hasN r.files name then 0 else 210
def rSyncM (r : Rf) (name : List UInt8) : Rf := bif rErr r name == 0 then { rStep r with files := modN r.files name fun p => { p with kept := p.bytes.length } } else rStep r
def rRemoveM (r : Rf) (name : List UInt8) : Rf := bif rErr r name == 0 then { rStep r with files := dropN' r.files name } else rStep r
def rRenameE (r : Rf) (a b : List UInt8) : Int := bif (rStep r).off then 212 else bif hasN r.files a && okName b then 0 else 210
def rRenameM (r : Rf) (a b : List UInt8) : Rf := bif rRenameE r a b == 0 then
    (if a = b then rStep r else match r.files.find? fun p => decide (p.name = a) with
      | some x => { rStep r with files := insP { x with name := b } (dropN' (dropN' r.files a) b) }
      | none => rStep r)
  else rStep r
def rPowerM (r : Rf) (at0 : Int) : Rf := bif r.off then r else { r with power := if at0 < 0 then 0 else at0 }
def crashR : List UInt8 → List PF → List PF
  | _, [] => []
  | cs, f :: fs => crash1 (cs.headD 0) f :: crashR cs.tail fs
def rCrashM (r : Rf) (cs : List UInt8) : Rf := { r with off := false, power := 0, files := crashR cs r.files }

/-! ### The two disks, told of one another -/
structure SimD (m : Ds) (r : Rf) : Prop where
  q : r.quota = m.quota
  s : r.steps = m.steps
  o : r.off = offB m.steps m.off
  p : r.off = false → (m.off ≤ 0 ∧ r.power = 0) ∨ (0 < m.off ∧ r.power = m.off - m.steps) ∨ (1099511627776 ≤ m.off ∧ 1099511627776 ≤ r.power + m.steps)
  p0 : 0 ≤ r.power
  p1 : r.power ≤ 9223372036854775807
  mem : ∀ x, x ∈ r.files ↔ x ∈ m.files
  sorted : SortN (r.files.map (·.name))
  nodup : (m.files.map (·.name)).Nodup
  kept : ∀ x ∈ r.files, x.kept ≤ x.bytes.length
/-- No more than there may be. -/
def UQ (m : Ds) : Prop := usedM m = 0 ∨ (usedM m : Int) ≤ m.quota

theorem nodup_of_names {l : List PF} (h : (l.map (·.name)).Nodup) : l.Nodup := by
  induction l with
  | nil => exact List.nodup_nil
  | cons x l ih =>
    rw [List.map_cons, List.nodup_cons] at h
    exact List.nodup_cons.2 ⟨fun hx => h.1 (List.mem_map.2 ⟨x, hx, rfl⟩), ih h.2⟩
theorem perm_of_mem : ∀ {l m : List PF}, l.Nodup → m.Nodup → (∀ x, x ∈ l ↔ x ∈ m) → l.Perm m
  | [], [], _, _, _ => .nil
  | [], x :: m, _, _, h => by have := (h x).2 (List.mem_cons_self ..); cases this
  | x :: l, m, h1, h2, h => by
    rw [List.nodup_cons] at h1
    have hx : x ∈ m := (h x).1 (List.mem_cons_self ..)
    obtain ⟨s, t, rfl⟩ := List.append_of_mem hx
    have h3 : (s ++ t).Nodup ∧ x ∉ s ++ t := by
      have : (x :: (s ++ t)).Nodup := (List.perm_middle.nodup_iff).1 h2
      rw [List.nodup_cons] at this
      exact ⟨this.2, this.1⟩
    refine (List.Perm.cons x (perm_of_mem h1.2 h3.1 (fun y => ?_))).trans List.perm_middle.symm
    have hy := h y
    simp only [List.mem_cons, List.mem_append] at hy ⊢
    constructor
    · intro q
      rcases hy.1 (.inr q) with p | p | p
      · exact .inl p
      · subst p; exact absurd q h1.1
      · exact .inr p
    · intro q
      have : y ≠ x := fun e => by subst e; exact h3.2 (List.mem_append.2 q)
      rcases hy.2 (by rcases q with q | q; exact .inl q; exact .inr (.inr q)) with p | p
      · exact absurd p this
      · exact p
theorem SimD.perm {m : Ds} {r : Rf} (h : SimD m r) : r.files.Perm m.files :=
  perm_of_mem (nodup_of_names h.sorted.nodup) (nodup_of_names h.nodup) h.mem
theorem SimD.used {m : Ds} {r : Rf} (h : SimD m r) : rUsed r.files = usedM m := (h.perm.map _).sum_nat
theorem SimD.len {m : Ds} {r : Rf} (h : SimD m r) : r.files.length = m.files.length := h.perm.length_eq
theorem find_name {l : List PF} (hn : (l.map (·.name)).Nodup) {p : PF} (hp : p ∈ l) : (l.find? fun q => decide (p.name = q.name)) = some p := by
  induction l with
  | nil => cases hp
  | cons c l ih =>
    rw [List.map_cons, List.nodup_cons] at hn
    rw [List.find?_cons]
    rcases List.mem_cons.1 hp with q | q
    · subst q; simp
    · have hne : p.name ≠ c.name := fun e => hn.1 (List.mem_map.2 ⟨p, q, e⟩)
      simp only [decide_eq_false hne]
      exact ih hn.2 q
theorem find_dec (l : List PF) (name : List UInt8) : (l.find? fun p => decide (p.name = name)) = l.find? fun p => decide (name = p.name) := by
  congr 1; funext p; simp [eq_comm]
theorem SimD.find {m : Ds} {r : Rf} (h : SimD m r) (name : List UInt8) : (r.files.find? fun p => decide (p.name = name)) = findM m name := by
  rw [find_dec]
  unfold findM
  cases h1 : (m.files.find? fun p => decide (name = p.name)) with
  | none =>
    rw [List.find?_eq_none] at h1 ⊢
    exact fun x hx => h1 x ((h.mem x).1 hx)
  | some p =>
    have h2 := List.find?_some h1
    have h3 := List.mem_of_find?_eq_some h1
    simp only [decide_eq_true_eq] at h2
    subst h2
    exact find_name h.sorted.nodup ((h.mem p).2 h3)
theorem has_find (l : List PF) (name : List UInt8) : hasN l name = (l.find? fun p => decide (p.name = name)).isSome := by
  unfold hasN
  induction l with
  | nil => rfl
  | cons x l ih =>
    rw [List.any_cons, List.find?_cons, ih]
    cases decide (x.name = name) <;> rfl
theorem SimD.hasF {m : Ds} {r : Rf} (h : SimD m r) (name : List UInt8) : hasN r.files name = (findM m name).isSome := by rw [has_find, h.find]
theorem has_mem {l : List PF} {name : List UInt8} : hasN l name = true ↔ name ∈ l.map (·.name) := by
  unfold hasN
  rw [List.any_eq_true, List.mem_map]
  simp
theorem SimD.names {m : Ds} {r : Rf} (h : SimD m r) : namesM m = r.files.map (·.name) := by
  unfold namesM
  have hp : (m.files.map (·.name)).Perm (r.files.map (·.name)) := (h.perm.map _).symm
  rw [mergeSort_of_perm hp]
  refine List.mergeSort_of_pairwise (h.sorted.imp fun {a b} hab => ?_)
  exact leB_of_lt hab
end Go.Proofs.Ytanknokhbfijdaa
