/- What functions of the receiver, of labels, rows, batches, and of the laws over them, do. Conditions: those that each theorem names. -/
import Derived.Test.YtjlhkbikconboaaQ12
import Derived.Test.YtjlhkbikconboaaR3
set_option linter.unusedVariables false
set_option linter.unusedSimpArgs false
namespace Go.Proofs.Ytjlhkbikconboaa
open Go.Ab
set_option maxRecDepth 100000
set_option maxHeartbeats 1000000
attribute [local irreducible] Run CallOK DetCall Br PreP BothP AncOr Onw NeedRows NeedMap NeedRow NeedLen NilP NeedIter RoundP EntryP EqP OptP NewP NewSlice NewMade AppTo DrawG anc drawB
def entB (b : Bt) : P × D := (.int .i64 b.seq, .p (btP b))
theorem keysOk_entB (l : List Bt) : keysOk (.int .i64) (l.map entB) := by
  intro e he
  obtain ⟨f, _, rfl⟩ := List.mem_map.1 he
  rfl
theorem lookE_entB (l : List Bt) (n : Int) : lookE (l.map entB) (.int .i64 n) = (l.find? fun f => decide (n = f.seq)).map fun f => .p (btP f) := by
  induction l with
  | nil => rfl
  | cons f l ih =>
    have e : entB f = (.int .i64 f.seq, .p (btP f)) := rfl
    simp only [List.map_cons, lookE, e, isKey_int, List.find?_cons]
    by_cases h : n = f.seq <;> simp [h, ih]
theorem lookB_out {l : List Bt} {n : Int} (h : n ∉ l.map (·.seq)) : lookE (l.map entB) (.int .i64 n) = none := by
  rw [lookE_entB, Option.map_eq_none_iff, List.find?_eq_none]
  intro f hf e
  simp only [decide_eq_true_eq] at e
  exact h (List.mem_map.2 ⟨f, hf, e.symm⟩)
theorem lookB_in {l : List Bt} {n : Int} (h : n ∈ l.map (·.seq)) : ∃ b ∈ l, b.seq = n ∧ lookE (l.map entB) (.int .i64 n) = some (.p (btP b)) := by
  rw [lookE_entB]
  cases hf : l.find? (fun f => decide (n = f.seq)) with
  | none =>
    obtain ⟨f, hfl, e⟩ := List.mem_map.1 h
    have := List.find?_eq_none.1 hf f hfl
    simp [e] at this
  | some f =>
    have h1 := List.find?_some hf
    simp only [decide_eq_true_eq] at h1
    exact ⟨f, List.mem_of_find?_eq_some hf, h1.symm, rfl⟩
theorem updB_out {l : List Bt} {b : Bt} (h : b.seq ∉ l.map (·.seq)) : updE (l.map entB) (.int .i64 b.seq) (.p (btP b)) = (l ++ [b]).map entB := by
  induction l with
  | nil => rfl
  | cons f l ih =>
    have e : entB f = (.int .i64 f.seq, .p (btP f)) := rfl
    simp only [List.map_cons, List.mem_cons, not_or] at h
    simp only [List.map_cons, updE, e, isKey_int, h.1, decide_false, cond_false, List.cons_append]
    rw [ih h.2]
/-- A receiver's cells: the row, the map; batches of any rows. -/
structure RcG (H : Heap) (r mid : Nat) (low : Int) (l : List Bt) (bs : List Nat) (ck : Nat) : Prop where
  row : nth H r = some (.rows [[.mp mid, i64 low]])
  map : nth H mid = some (.map (l.map entB) bs ck)
  ok : MapOK (l.map entB) bs ck
  ne : r ≠ mid
  keys : (l.map (·.seq)).Nodup
  good : ∀ b ∈ l, GoodB b
  pos : ∀ b ∈ l, 0 < b.seq ∧ b.seq ≤ 9223372036854775807
theorem RcG.keep {H H' : Heap} {r mid : Nat} {low : Int} {l : List Bt} {bs : List Nat} {ck : Nat} (h : RcG H r mid low l bs ck) (e1 : nth H' r = nth H r) (e2 : nth H' mid = nth H mid) : RcG H' r mid low l bs ck :=
  ⟨e1.trans h.row, e2.trans h.map, h.ok, h.ne, h.keys, h.good, h.pos⟩
theorem RcG.kpos {H : Heap} {r mid : Nat} {low : Int} {l : List Bt} {bs : List Nat} {ck : Nat} (h : RcG H r mid low l bs ck) {n : Int} (hn : n ∈ l.map (·.seq)) : 0 < n ∧ n ≤ 9223372036854775807 := by
  obtain ⟨b, hb, rfl⟩ := List.mem_map.1 hn; exact h.pos b hb
/-- The next number in a machine's word: there, or not. -/
theorem wrap_in {keys : List Int} (hk : ∀ k ∈ keys, 0 < k ∧ k ≤ 9223372036854775807) {n : Int} (h0 : 0 ≤ n) (h1 : n ≤ 9223372036854775807) : IntKind.i64.wrap (n + 1) ∈ keys ↔ n + 1 ∈ keys := by
  by_cases h : n = 9223372036854775807
  · subst h
    have e : IntKind.i64.wrap (9223372036854775807 + 1) = -9223372036854775808 := by decide
    rw [e]
    constructor
    · intro q; have := (hk _ q).1; omega
    · intro q; have := (hk _ q).2; omega
  · rw [wrap64 (by omega) (by omega)]
theorem filter_less {keys : List Int} {n : Int} (h : n + 1 ∈ keys) : (keys.filter fun k => decide (n + 1 < k)).length < (keys.filter fun k => decide (n < k)).length := by
  have e : (keys.filter fun k => decide (n + 1 < k)) = (keys.filter fun k => decide (n < k)).filter fun k => decide (n + 1 < k) := by
    rw [List.filter_filter]
    refine List.filter_congr fun x _ => ?_
    by_cases hx : n + 1 < x
    · have : n < x := by omega
      simp [hx, this]
    · simp [hx]
  rw [e]
  refine List.length_filter_lt_length_iff_exists.2 ⟨n + 1, List.mem_filter.2 ⟨h, by simp; omega⟩, by simp⟩
end Go.Proofs.Ytjlhkbikconboaa
