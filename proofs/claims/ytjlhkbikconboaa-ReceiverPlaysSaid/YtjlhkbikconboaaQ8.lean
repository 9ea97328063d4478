/- What functions of the receiver, of labels, rows, batches, and of the laws over them, do. Conditions: those that each theorem names. -/
import Derived.Test.YtjlhkbikconboaaQ7
set_option linter.unusedVariables false
set_option linter.unusedSimpArgs false
namespace Go.Proofs.Ytjlhkbikconboaa
open Go.Ab
set_option maxRecDepth 100000
set_option maxHeartbeats 1000000
attribute [local irreducible] Run CallOK DetCall Br PreP BothP AncOr Onw NeedRows NeedMap NeedRow NeedLen NilP NeedIter RoundP EntryP EqP OptP NewP NewSlice NewMade AppTo DrawG anc drawB
def SortedL (l : List Rw) : Prop := ∀ k a b, l[k]? = some a → l[k + 1]? = some b → 0 ≤ cmpR b a
theorem set_self {α : Type} {l : List α} {i : Nat} {x : α} (h : l[i]? = some x) : l.set i x = l := by
  refine List.ext_getElem? fun j => ?_
  rw [List.getElem?_set]
  split
  · rename_i e; subst e
    split
    · exact h.symm
    · rename_i hl; rw [List.getElem?_eq_none (by omega)] at h; cases h
  · rfl
theorem rowsD_set (l : List Rw) (k : Nat) (x : Rw) : rowsD (l.set k x) = setN (rowsD l) k ((rowRow x).map D.p) := by
  unfold rowsD; rw [setN_eq, List.map_set, List.map_set]
theorem get_swap {cur : List Rw} {j : Nat} {x p : Rw} (hj : 1 ≤ j) (hl : j < cur.length) (m : Nat) : ((cur.set j p).set (j - 1) x)[m]? = if m = j - 1 then some x else if m = j then some p else cur[m]? := by
  by_cases e1 : m = j - 1
  · subst e1; rw [if_pos rfl, List.getElem?_set_self (by rw [List.length_set]; omega)]
  · rw [if_neg e1, List.getElem?_set_ne (fun e => e1 e.symm)]
    by_cases e2 : m = j
    · subst e2; rw [if_pos rfl, List.getElem?_set_self hl]
    · rw [if_neg e2, List.getElem?_set_ne (fun e => e2 e.symm)]
theorem nth_rowsD {l : List Rw} {k : Nat} {x : Rw} (h : l[k]? = some x) : nth (rowsD l) k = some ((rowRow x).map D.p) := by
  rw [nth_eq]; unfold rowsD; simp [h]
/-- One row sinks to its place. -/
def sink : Nat → List Rw → List Rw
  | 0, cur => cur
  | j + 1, cur => match cur[j + 1]?, cur[j]? with
    | some x, some p => if cmpR x p < 0 then sink j ((cur.set (j + 1) p).set j x) else cur
    | _, _ => cur
def sortFrom : Nat → Nat → List Rw → List Rw
  | 0, _, cur => cur
  | k + 1, i, cur => sortFrom k (i + 1) (sink i cur)
/-- Rows sorted by insertion. -/
def isort (l : List Rw) : List Rw := sortFrom (l.length - 1) 1 l
theorem sink_lt {cur : List Rw} {j : Nat} {x p : Rw} (hj : 1 ≤ j) (hx : cur[j]? = some x) (hp : cur[j - 1]? = some p) (h : cmpR x p < 0) : sink j cur = sink (j - 1) ((cur.set j p).set (j - 1) x) := by
  cases j with
  | zero => omega
  | succ j =>
    simp only [Nat.add_sub_cancel] at hp ⊢
    rw [sink]; simp only [hx, hp, if_pos h]
theorem sink_ge {cur : List Rw} {j : Nat} {x p : Rw} (hj : 1 ≤ j) (hx : cur[j]? = some x) (hp : cur[j - 1]? = some p) (h : ¬ cmpR x p < 0) : sink j cur = cur := by
  cases j with
  | zero => omega
  | succ j =>
    simp only [Nat.add_sub_cancel] at hp
    rw [sink]; simp only [hx, hp, if_neg h]
theorem sortFrom_lt {n i : Nat} {cur : List Rw} (h : i < n) : sortFrom (n - i) i cur = sortFrom (n - (i + 1)) (i + 1) (sink i cur) := by
  have e : n - i = (n - (i + 1)) + 1 := by omega
  rw [e]; rfl
theorem sink_spec : ∀ (j i : Nat) (cur : List Rw), j ≤ i → i < cur.length → (∀ k a b, k + 1 ≤ i → k + 1 ≠ j → cur[k]? = some a → cur[k + 1]? = some b → 0 ≤ cmpR b a) →
    (∀ a b, 1 ≤ j → j < i → cur[j - 1]? = some a → cur[j + 1]? = some b → 0 ≤ cmpR b a) →
    (sink j cur).length = cur.length ∧ (∀ k a b, k + 1 ≤ i → (sink j cur)[k]? = some a → (sink j cur)[k + 1]? = some b → 0 ≤ cmpR b a) ∧ ∀ r ∈ sink j cur, r ∈ cur
  | 0, i, cur, hji, hil, hs, hs2 => ⟨rfl, fun k a b h => hs k a b h (by omega), fun r h => h⟩
  | j' + 1, i, cur, hji, hil, hs, hs2 => by
    generalize hj : j' + 1 = j at *
    have hj0 : 1 ≤ j := by omega
    obtain ⟨x, hx⟩ : ∃ x, cur[j]? = some x := ⟨_, List.getElem?_eq_getElem (by omega)⟩
    obtain ⟨p, hp⟩ : ∃ p, cur[j - 1]? = some p := ⟨_, List.getElem?_eq_getElem (by omega)⟩
    by_cases hc : cmpR x p < 0
    · rw [sink_lt hj0 hx hp hc]
      have hget := fun m => get_swap (cur := cur) (x := x) (p := p) hj0 (by omega) m
      have e : j - 1 = j' := by omega
      obtain ⟨h1, h2, h3⟩ := sink_spec j' i ((cur.set j p).set (j - 1) x) (by omega) (by rw [List.length_set, List.length_set]; exact hil) (fun k a b h1 h2 h3 h4 => by
          rw [hget] at h3 h4
          by_cases e1 : k + 1 = j
          · rw [if_pos (by omega)] at h3
            rw [if_neg (by omega), if_pos e1] at h4
            cases h3; cases h4
            have := cmpL_neg x.ls p.ls
            unfold cmpR at hc ⊢; omega
          · rw [if_neg (by omega)] at h3
            rw [if_neg (by omega), if_neg e1] at h4
            by_cases e2 : k = j
            · rw [if_pos e2] at h3
              cases h3; subst e2
              exact hs2 _ _ (by omega) (by omega) hp h4
            · rw [if_neg e2] at h3
              exact hs k a b h1 e1 h3 h4) (fun a b h1 h2 h3 h4 => by
          rw [hget] at h3 h4
          rw [if_neg (by omega), if_neg (by omega)] at h3
          rw [if_neg (by omega), if_pos (by omega)] at h4
          cases h4
          have e : j' - 1 + 1 = j - 1 := by omega
          exact hs (j' - 1) a p (by omega) (by omega) h3 (by rw [e]; exact hp))
      rw [e] at h1 h2 h3 ⊢
      refine ⟨by rw [h1, List.length_set, List.length_set], h2, fun r hr => ?_⟩
      rcases List.mem_or_eq_of_mem_set (h3 r hr) with q | q
      · rcases List.mem_or_eq_of_mem_set q with q | q
        · exact q
        · rw [q]; exact List.mem_of_getElem? hp
      · rw [q]; exact List.mem_of_getElem? hx
    · rw [sink_ge hj0 hx hp hc]
      refine ⟨rfl, fun k a b h h3 h4 => ?_, fun r h => h⟩
      by_cases e1 : k + 1 = j
      · obtain rfl : k = j - 1 := by omega
        rw [hp] at h3; cases h3
        rw [e1, hx] at h4; cases h4
        omega
      · exact hs k a b h e1 h3 h4
theorem sink_same {l : List Rw} (h : SortedL l) (j : Nat) : sink j l = l := by
  cases j with
  | zero => rfl
  | succ j =>
    rw [sink]
    split
    · rename_i x p hx hp
      have := h j p x hp hx
      rw [if_neg (by omega)]
    · rfl
theorem sortFrom_same {l : List Rw} (h : SortedL l) : ∀ (k i : Nat), sortFrom k i l = l
  | 0, _ => rfl
  | k + 1, i => by rw [sortFrom, sink_same h, sortFrom_same h k]
theorem isort_same {l : List Rw} (h : SortedL l) : isort l = l := sortFrom_same h _ _
theorem sortFrom_spec : ∀ (k i : Nat) (cur : List Rw), 1 ≤ i → i + k = cur.length → (∀ k a b, k + 1 < i → cur[k]? = some a → cur[k + 1]? = some b → 0 ≤ cmpR b a) →
    (sortFrom k i cur).length = cur.length ∧ SortedL (sortFrom k i cur) ∧ ∀ r ∈ sortFrom k i cur, r ∈ cur
  | 0, i, cur, hi, hk, hs => ⟨rfl, fun k a b h1 h2 => hs k a b (by have := get_lt (show cur[k + 1]? = some b from h2); omega) h1 h2, fun r h => h⟩
  | k + 1, i, cur, hi, hk, hs => by
    obtain ⟨h1, h2, h3⟩ := sink_spec i i cur (Nat.le_refl _) (by omega) (fun k a b h1 h2 => hs k a b (by omega)) (fun a b h1 h2 => by omega)
    obtain ⟨g1, g2, g3⟩ := sortFrom_spec k (i + 1) (sink i cur) (by omega) (by rw [h1]; omega) (fun k a b h => h2 k a b (by omega))
    exact ⟨by rw [sortFrom, g1, h1], g2, fun r hr => h3 r (g3 r hr)⟩
theorem isort_spec (l : List Rw) : (isort l).length = l.length ∧ SortedL (isort l) ∧ ∀ r ∈ isort l, r ∈ l := by
  cases l with
  | nil => exact ⟨rfl, fun k a b h => by simp [isort, sortFrom] at h, fun r h => h⟩
  | cons x l => exact sortFrom_spec _ 1 (x :: l) (Nat.le_refl _) (by simp; omega) (fun k a b h => by omega)
theorem q74 (H : Heap) (id : Nat) (l : List Rw) (hn : l.length ≤ 1000) (hrow : nth H id = some (.rows (rowsD l))) (hf : ∀ r ∈ l, Fits r.ls) :
    Ab.Spec Try.prog 74 [.own id 3 0 l.length none, i64 (0 : Nat), i64 l.length, .fn (.func 50) [] []] H (fun r H' => r = .tup [] ∧ H' = setN H id (.rows (rowsD (isort l)))) := by
  have hlt := nth_lt hrow
  refine Ab.Spec.walk hm Try.func74 (by kernel_rfl) 60 ?_
  repeat' (first
    | ((with_reducible apply Onw.mk); conv => whnf)
    | (with_reducible first | apply Br.tt | apply Br.ff | apply Br.no)
    | ((with_reducible apply Br.t); · assumption)
    | ((with_reducible apply Br.f); · assumption)
    | ((with_reducible apply Br.dt); · exact ab_known)
    | ((with_reducible apply Br.df); · exact ab_known)
    | (with_reducible first | refine Br.dec (fun hc => ?_) (fun hc => ?_) | refine Br.mk (fun hc => ?_) (fun hc => ?_))
    | ((with_reducible first | apply NeedRows.mk | apply NeedMap.mk | apply NeedIter.mk); · exact ab_look)
    | ((with_reducible apply NeedLen.mk); · first | assumption | rfl)
    | ((with_reducible apply NeedRow.mk); · exact ab_lookR)
    | ((with_reducible apply DrawG.mk (List.replicate 60 false)); · decide +kernel)
    | (with_reducible first | refine NewP.mk (fun id hid => ?_) | refine NilP.mk (fun e he => ?_))
    | (with_reducible first | exact trivial | exact And.intro rfl rfl)
    | ((with_reducible apply PreP.mk); · exact ab_asked)
    | refine Exists.intro _ (PreP.mk (bytesOf_lst _) ?_)
    | refine PreP.mk (lenD_lst _) ?_
    | (with_reducible first | refine PreP.mk ?_ ?_ | refine BothP.mk ?_ ?_)
    | ((with_reducible apply AncOr.anc); · decide +kernel)
    | with_reducible refine AncOr.go ?_)
  refine Run.keep [(0, .own id 3 0 l.length none), (1, i64 (0 : Nat)), (2, i64 l.length), (3, .fn (.func 50) [] []), (8, i64 (1 : Nat))] ⟨rfl, rfl, rfl, rfl, rfl, trivial⟩ ?_
  refine Run.rounds (fun (i : Nat) T H2 => ∃ cur : List Rw, T = [(0, .own id 3 0 l.length none), (1, i64 (0 : Nat)), (2, i64 l.length), (3, .fn (.func 50) [] []), (8, i64 i)] ∧ H2 = setN H id (.rows (rowsD cur)) ∧ cur.length = l.length ∧ 1 ≤ i ∧
    (∀ r ∈ cur, r ∈ l) ∧ sortFrom (l.length - i) i cur = isort l) (fun i => l.length - i) ?_ (x := 1)
    ⟨l, rfl, by rw [setN_eq]; rw [nth_eq] at hrow; exact (set_self hrow).symm, rfl, Nat.le_refl _, fun r h => h, rfl⟩
  rintro i T H2 ⟨cur, rfl, rfl, hcl, hi1, hmem, hso⟩ ih
  refine Run.walk hm Try.func74 100 ?_
  rcases Nat.lt_or_ge i l.length with hil | hil
  · have hc1 : (i : Int) < (l.length : Int) := by omega
    have wi : IntKind.i64.wrap ((i : Int) + 1) = ((i + 1 : Nat) : Int) := by rw [wrap64 (by omega) (by omega)]; omega
    rw [sortFrom_lt hil] at hso
    generalize hS : sink i cur = S at hso
    repeat' (first
      | ((with_reducible apply Onw.mk); conv => whnf)
      | (with_reducible first | apply Br.tt | apply Br.ff | apply Br.no)
      | ((with_reducible apply Br.t); · assumption)
      | ((with_reducible apply Br.f); · assumption)
      | ((with_reducible apply Br.dt); · exact ab_known)
      | ((with_reducible apply Br.df); · exact ab_known)
      | (with_reducible first | refine Br.dec (fun hc => ?_) (fun hc => ?_) | refine Br.mk (fun hc => ?_) (fun hc => ?_))
      | ((with_reducible first | apply NeedRows.mk | apply NeedMap.mk | apply NeedIter.mk); · exact ab_look)
      | ((with_reducible apply NeedLen.mk); · first | assumption | rfl)
      | ((with_reducible apply NeedRow.mk); · exact ab_lookR)
      | ((with_reducible apply DrawG.mk (List.replicate 60 false)); · decide +kernel)
      | (with_reducible first | refine NewP.mk (fun id hid => ?_) | refine NilP.mk (fun e he => ?_))
      | (with_reducible first | exact trivial | exact And.intro rfl rfl)
      | ((with_reducible apply PreP.mk); · exact ab_asked)
      | refine Exists.intro _ (PreP.mk (bytesOf_lst _) ?_)
      | refine PreP.mk (lenD_lst _) ?_
      | (with_reducible first | refine PreP.mk ?_ ?_ | refine BothP.mk ?_ ?_)
      | ((with_reducible apply AncOr.anc); · decide +kernel)
      | with_reducible refine AncOr.go ?_)
    refine Run.keep [(0, .own id 3 0 l.length none), (1, i64 (0 : Nat)), (2, i64 l.length), (3, .fn (.func 50) [] []), (8, i64 i), (9, i64 i)] ⟨rfl, rfl, rfl, rfl, rfl, rfl, trivial⟩ ?_
    refine Run.rounds (fun (j : Nat) T H2 => ∃ cur : List Rw, T = [(0, .own id 3 0 l.length none), (1, i64 (0 : Nat)), (2, i64 l.length), (3, .fn (.func 50) [] []), (8, i64 i), (9, i64 j)] ∧ H2 = setN H id (.rows (rowsD cur)) ∧ cur.length = l.length ∧ j ≤ i ∧
      (∀ r ∈ cur, r ∈ l) ∧ sink j cur = S) (fun j => j) ?_ (x := i)
      ⟨cur, rfl, rfl, hcl, Nat.le_refl _, hmem, hS⟩
    clear hmem hcl hS cur
    rintro j T H2 ⟨cur, rfl, rfl, hcl, hji, hmem, hS⟩ ih2
    have hrowc : nth (setN H id (.rows (rowsD cur))) id = some (.rows (rowsD cur)) := nth_setN_same hrow
    refine Run.walk hm Try.func74 100 ?_
    rcases Nat.eq_zero_or_pos j with hj0 | hj0
    · have hc2 : ¬ (0 : Int) < (j : Int) := by omega
      repeat' (first
        | ((with_reducible apply Onw.mk); conv => whnf)
        | (with_reducible first | apply Br.tt | apply Br.ff | apply Br.no)
        | ((with_reducible apply Br.t); · assumption)
        | ((with_reducible apply Br.f); · assumption)
        | ((with_reducible apply Br.dt); · exact ab_known)
        | ((with_reducible apply Br.df); · exact ab_known)
        | (with_reducible first | refine Br.dec (fun hc => ?_) (fun hc => ?_) | refine Br.mk (fun hc => ?_) (fun hc => ?_))
        | ((with_reducible first | apply NeedRows.mk | apply NeedMap.mk | apply NeedIter.mk); · exact ab_look)
        | ((with_reducible apply NeedLen.mk); · first | assumption | rfl)
        | ((with_reducible apply NeedRow.mk); · exact ab_lookR)
        | ((with_reducible apply DrawG.mk (List.replicate 60 false)); · decide +kernel)
        | (with_reducible first | refine NewP.mk (fun id hid => ?_) | refine NilP.mk (fun e he => ?_))
        | (with_reducible first | exact trivial | exact And.intro rfl rfl)
        | ((with_reducible apply PreP.mk); · exact ab_asked)
        | refine Exists.intro _ (PreP.mk (bytesOf_lst _) ?_)
        | refine PreP.mk (lenD_lst _) ?_
        | (with_reducible first | refine PreP.mk ?_ ?_ | refine BothP.mk ?_ ?_)
        | ((with_reducible apply AncOr.anc); · decide +kernel)
        | with_reducible refine AncOr.go ?_)
      refine Run.keep _ ?_ (ih (i + 1) _ _ (by omega) ⟨cur, rfl, rfl, hcl, by omega, hmem, by subst hj0; rw [← hS] at hso; exact hso⟩)
      exact ⟨rfl, rfl, rfl, rfl, congrArg (fun x => some (i64 x)) wi, trivial⟩
    · have hc2 : (0 : Int) < (j : Int) := by omega
      have wj : IntKind.i64.wrap ((j : Int) - 1) = ((j - 1 : Nat) : Int) := by rw [wrap64 (by omega) (by omega)]; omega
      obtain ⟨x, hx⟩ : ∃ x, cur[j]? = some x := ⟨_, List.getElem?_eq_getElem (by omega)⟩
      obtain ⟨p, hp⟩ : ∃ p, cur[j - 1]? = some p := ⟨_, List.getElem?_eq_getElem (by omega)⟩
      have hp1 : (0 : Int) ≤ (j : Int) ∧ (j : Int) < (l.length : Int) := by omega
      have hp2 : (0 : Int) ≤ IntKind.i64.wrap ((j : Int) - 1) ∧ IntKind.i64.wrap ((j : Int) - 1) < (l.length : Int) := by rw [wj]; omega
      have hn1 : nth (rowsD cur) (0 + ((j : Int)).toNat) = some ((rowRow x).map D.p) := by
        have e : 0 + ((j : Int)).toNat = j := by omega
        rw [e]; exact nth_rowsD hx
      have hn2 : nth (rowsD cur) (0 + (IntKind.i64.wrap ((j : Int) - 1)).toNat) = some ((rowRow p).map D.p) := by
        rw [wj]
        have e : 0 + (((j - 1 : Nat) : Int)).toNat = j - 1 := by omega
        rw [e]; exact nth_rowsD hp
      have hfx := hf x (hmem x (List.mem_of_getElem? hx))
      have hfp := hf p (hmem p (List.mem_of_getElem? hp))
      repeat' (first
        | ((with_reducible apply Onw.mk); conv => whnf)
        | (with_reducible first | apply Br.tt | apply Br.ff | apply Br.no)
        | ((with_reducible apply Br.t); · assumption)
        | ((with_reducible apply Br.f); · assumption)
        | ((with_reducible apply Br.dt); · exact ab_known)
        | ((with_reducible apply Br.df); · exact ab_known)
        | (with_reducible first | refine Br.dec (fun hc => ?_) (fun hc => ?_) | refine Br.mk (fun hc => ?_) (fun hc => ?_))
        | (refine PreP.mk hp1 ?_)
        | (refine PreP.mk hp2 ?_)
        | (refine NeedRow.mk hn1 ?_)
        | (refine NeedRow.mk hn2 ?_)
        | (refine CallOK.go (c50 _ x p hfx hfp) (fun r2 H2 hr2 => ?_); obtain ⟨rfl, he2⟩ := hr2; rw [he2]; clear he2 H2)
        | (refine DetCall.go (c50 _ x p hfx hfp) ?_)
        | ((with_reducible apply DrawG.len [false, false, false, false, false, false, false, false, false, false, false, false, false, false, false, true, false, true]); · decide +kernel)
        | ((with_reducible first | apply NeedRows.mk | apply NeedMap.mk | apply NeedIter.mk); · exact ab_look)
        | ((with_reducible apply NeedLen.mk); · first | assumption | rfl)
        | ((with_reducible apply NeedRow.mk); · exact ab_lookR)
        | ((with_reducible apply DrawG.mk (List.replicate 60 false)); · decide +kernel)
        | (with_reducible first | refine NewP.mk (fun id hid => ?_) | refine NilP.mk (fun e he => ?_))
        | (with_reducible first | exact trivial | exact And.intro rfl rfl)
        | ((with_reducible apply PreP.mk); · exact ab_asked)
        | refine Exists.intro _ (PreP.mk (bytesOf_lst _) ?_)
        | refine PreP.mk (lenD_lst _) ?_
        | (with_reducible first | refine PreP.mk ?_ ?_ | refine BothP.mk ?_ ?_)
        | ((with_reducible apply AncOr.anc); · decide +kernel)
        | with_reducible refine AncOr.go ?_)
      · refine Run.keep _ ?_ (ih2 (j - 1) _ _ (by omega) ⟨(cur.set j p).set (j - 1) x, rfl, ?_, by rw [List.length_set, List.length_set]; exact hcl, by omega, ?_, by rw [← sink_lt hj0 hx hp hc]; exact hS⟩)
        · exact ⟨rfl, rfl, rfl, rfl, rfl, congrArg (fun x => some (i64 x)) wj, trivial⟩
        · rw [wj]
          have e1 : 0 + ((j : Int)).toNat = j := by omega
          have e2 : 0 + (((j - 1 : Nat) : Int)).toNat = j - 1 := by omega
          rw [e1, e2, rowsD_set, rowsD_set]
          simp only [setN_eq, List.set_set]
          rfl
        · intro r hr
          rcases List.mem_or_eq_of_mem_set hr with q | q
          · rcases List.mem_or_eq_of_mem_set q with q | q
            · exact hmem r q
            · rw [q]; exact hmem p (List.mem_of_getElem? hp)
          · rw [q]; exact hmem x (List.mem_of_getElem? hx)
      · refine Run.keep _ ?_ (ih (i + 1) _ _ (by omega) ⟨cur, rfl, rfl, hcl, by omega, hmem, by rw [sink_ge hj0 hx hp hc] at hS; rw [hS]; exact hso⟩)
        exact ⟨rfl, rfl, rfl, rfl, congrArg (fun x => some (i64 x)) wi, trivial⟩
  · have hc1 : ¬ (i : Int) < (l.length : Int) := by omega
    have e0 : l.length - i = 0 := by omega
    rw [e0] at hso
    repeat' (first
      | ((with_reducible apply Onw.mk); conv => whnf)
      | (with_reducible first | apply Br.tt | apply Br.ff | apply Br.no)
      | ((with_reducible apply Br.t); · assumption)
      | ((with_reducible apply Br.f); · assumption)
      | ((with_reducible apply Br.dt); · exact ab_known)
      | ((with_reducible apply Br.df); · exact ab_known)
      | (with_reducible first | refine Br.dec (fun hc => ?_) (fun hc => ?_) | refine Br.mk (fun hc => ?_) (fun hc => ?_))
      | ((with_reducible first | apply NeedRows.mk | apply NeedMap.mk | apply NeedIter.mk); · exact ab_look)
      | ((with_reducible apply NeedLen.mk); · first | assumption | rfl)
      | ((with_reducible apply NeedRow.mk); · exact ab_lookR)
      | ((with_reducible apply DrawG.mk (List.replicate 60 false)); · decide +kernel)
      | (with_reducible first | refine NewP.mk (fun id hid => ?_) | refine NilP.mk (fun e he => ?_))
      | (with_reducible first | exact trivial | exact And.intro rfl rfl)
      | ((with_reducible apply PreP.mk); · exact ab_asked)
      | refine Exists.intro _ (PreP.mk (bytesOf_lst _) ?_)
      | refine PreP.mk (lenD_lst _) ?_
      | (with_reducible first | refine PreP.mk ?_ ?_ | refine BothP.mk ?_ ?_)
      | ((with_reducible apply AncOr.anc); · decide +kernel)
      | with_reducible refine AncOr.go ?_)
    exact ⟨rfl, by rw [← hso]; rfl⟩
end Go.Proofs.Ytjlhkbikconboaa
