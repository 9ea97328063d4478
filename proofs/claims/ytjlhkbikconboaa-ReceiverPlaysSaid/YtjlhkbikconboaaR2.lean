/- What functions of the receiver, of labels, rows, batches, and of the laws over them, do. Conditions: those that each theorem names. -/
import Derived.Test.YtjlhkbikconboaaR1
import Derived.Test.YtjlhkbikconboaaKc
set_option linter.unusedVariables false
set_option linter.unusedSimpArgs false
namespace Go.Proofs.Ytjlhkbikconboaa
open Go.Ab
set_option maxRecDepth 100000
set_option maxHeartbeats 1000000
attribute [local irreducible] Run CallOK DetCall Br PreP BothP AncOr Onw NeedRows NeedMap NeedRow NeedLen NilP NeedIter RoundP EntryP EqP OptP NewP NewSlice NewMade AppTo DrawG anc drawB
/-- What a map holds of a batch: its number, its time. -/
def entR (f : Int × Int) : P × D := (.int .i64 f.1, .p (batP f.1 f.2 (.lst [])))
theorem isKey_int {a b : Int} {d : D} : isKey (.int .i64 a) (.int .i64 b, d) = decide (a = b) := by
  simp only [isKey, keyEq]
  by_cases h : a = b <;> simp [h]
theorem keysOk_ent (l : List (Int × Int)) : keysOk (.int .i64) (l.map entR) := by
  intro e he
  obtain ⟨f, _, rfl⟩ := List.mem_map.1 he
  rfl
theorem lookE_ent (l : List (Int × Int)) (n : Int) : lookE (l.map entR) (.int .i64 n) = (l.find? fun f => decide (n = f.1)).map fun f => .p (batP f.1 f.2 (.lst [])) := by
  induction l with
  | nil => rfl
  | cons f l ih =>
    have e : entR f = (.int .i64 f.1, .p (batP f.1 f.2 (.lst []))) := rfl
    simp only [List.map_cons, lookE, e, isKey_int, List.find?_cons]
    by_cases h : n = f.1 <;> simp [h, ih]
theorem lookE_out {l : List (Int × Int)} {n : Int} (h : n ∉ l.map (·.1)) : lookE (l.map entR) (.int .i64 n) = none := by
  rw [lookE_ent, Option.map_eq_none_iff, List.find?_eq_none]
  intro f hf e
  simp only [decide_eq_true_eq] at e
  exact h (List.mem_map.2 ⟨f, hf, e.symm⟩)
theorem lookE_in {l : List (Int × Int)} {n : Int} (h : n ∈ l.map (·.1)) : ∃ t, (n, t) ∈ l ∧ lookE (l.map entR) (.int .i64 n) = some (.p (batP n t (.lst []))) := by
  rw [lookE_ent]
  cases hf : l.find? (fun f => decide (n = f.1)) with
  | none =>
    obtain ⟨f, hfl, e⟩ := List.mem_map.1 h
    have := List.find?_eq_none.1 hf f hfl
    simp [e] at this
  | some f =>
    have h1 := List.find?_some hf
    simp only [decide_eq_true_eq] at h1
    subst h1
    exact ⟨f.2, List.mem_of_find?_eq_some hf, rfl⟩
theorem updE_out {l : List (Int × Int)} {n t : Int} (h : n ∉ l.map (·.1)) : updE (l.map entR) (.int .i64 n) (.p (batP n t (.lst []))) = (l ++ [(n, t)]).map entR := by
  induction l with
  | nil => rfl
  | cons f l ih =>
    have e : entR f = (.int .i64 f.1, .p (batP f.1 f.2 (.lst []))) := rfl
    simp only [List.map_cons, List.mem_cons, not_or] at h
    simp only [List.map_cons, updE, e, isKey_int, h.1, decide_false, cond_false, List.cons_append]
    rw [ih h.2]
/-- A receiver's cells: the row, the map. -/
structure RcAt (H : Heap) (r mid : Nat) (low : Int) (l : List (Int × Int)) (bs : List Nat) (ck : Nat) : Prop where
  row : nth H r = some (.rows [[.mp mid, i64 low]])
  map : nth H mid = some (.map (l.map entR) bs ck)
  ok : MapOK (l.map entR) bs ck
  ne : r ≠ mid
  keys : (l.map (·.1)).Nodup
theorem RcAt.more {H : Heap} {r mid : Nat} {low : Int} {l : List (Int × Int)} {bs : List Nat} {ck : Nat} (h : RcAt H r mid low l bs ck) (x : Heap) : RcAt (H ++ x) r mid low l bs ck :=
  ⟨nth_app h.row, nth_app h.map, h.ok, h.ne, h.keys⟩
/-- The mark: up to it all numbers are there, the next one isn't. -/
def IsMark (keys : List Int) (low m : Int) : Prop := low - 1 ≤ m ∧ (∀ j, low ≤ j → j ≤ m → j ∈ keys) ∧ m + 1 ∉ keys
theorem s11z (H : Heap) (r mid : Nat) (l : List (Int × Int)) (bs : List Nat) (ck : Nat) (h : RcAt H r mid 0 l bs ck) : Ab.Spec Try.prog 11 [.ptr r 0 0] H (fun r H' => r = i64 0 ∧ ∃ x, H' = H ++ x) := by
  have h1 := h.row
  refine Ab.Spec.walk hm Try.func11 (by kernel_rfl) 100 ?_
  repeat' (first
    | ((with_reducible apply Onw.mk); conv => whnf)
    | (with_reducible first | apply Br.tt | apply Br.ff | apply Br.no)
    | ((with_reducible apply Br.t); · assumption)
    | ((with_reducible apply Br.f); · assumption)
    | ((with_reducible apply Br.dt); · exact ab_known)
    | ((with_reducible apply Br.df); · exact ab_known)
    | (with_reducible first | refine Br.dec (fun hc => ?_) (fun hc => ?_) | refine Br.mk (fun hc => ?_) (fun hc => ?_))
    | ((with_reducible first | apply NeedRows.mk | apply NeedMap.mk | apply NeedIter.mk); · exact ab_look)
    | ((with_reducible apply NeedLen.mk); · first | assumption | rfl)
    | ((with_reducible apply NeedRow.mk); · exact ab_lookR)
    | ((with_reducible apply DrawG.mk (List.replicate 60 false)); · decide +kernel)
    | (with_reducible first | refine NewP.mk (fun id hid => ?_) | refine NilP.mk (fun e he => ?_))
    | (with_reducible first | exact trivial | exact And.intro rfl rfl)
    | ((with_reducible apply PreP.mk); · exact ab_asked)
    | refine Exists.intro _ (PreP.mk (bytesOf_lst _) ?_)
    | refine PreP.mk (lenD_lst _) ?_
    | (with_reducible first | refine PreP.mk ?_ ?_ | refine BothP.mk ?_ ?_)
    | ((with_reducible apply AncOr.anc); · decide +kernel)
    | with_reducible refine AncOr.go ?_)
  exact ⟨rfl, [], by simp⟩
theorem s11 (H : Heap) (r mid : Nat) (low : Int) (l : List (Int × Int)) (bs : List Nat) (ck : Nat) (h : RcAt H r mid low l bs ck) (hlow : 1 ≤ low) (hlow2 : low ≤ 1000) (hk : ∀ k ∈ l.map (·.1), k ≤ 1000) :
    Ab.Spec Try.prog 11 [.ptr r 0 0] H (fun r H' => (∃ m, r = i64 m ∧ IsMark (l.map (·.1)) low m) ∧ ∃ x, H' = H ++ x) := by
  have h1 := h.row
  have h2 := h.map
  have hl0 : ¬ low = 0 := by omega
  have hpk : ∀ n : Int, keysOk (.int .i64) (l.map entR) ∧ keyOk (.int .i64) (.int .i64 n) = true := fun n => ⟨keysOk_ent l, rfl⟩
  refine Ab.Spec.walk hm Try.func11 (by kernel_rfl) 100 ?_
  have hw0 : IntKind.i64.wrap (IntKind.i64.wrap (low - 1) + 1) = low - 1 + 1 := by rw [wrap64 (n := low - 1) (by omega) (by omega), wrap64 (by omega) (by omega)]
  rcases Classical.em (IntKind.i64.wrap (IntKind.i64.wrap (low - 1) + 1) ∈ l.map (·.1)) with hin | hin
  · obtain ⟨t, ht, hlk⟩ := lookE_in hin
    repeat' (first
      | ((with_reducible apply Onw.mk); conv => whnf)
      | (with_reducible first | apply Br.tt | apply Br.ff | apply Br.no)
      | ((with_reducible apply Br.t); · assumption)
      | ((with_reducible apply Br.f); · assumption)
      | ((with_reducible apply Br.dt); · exact ab_known)
      | ((with_reducible apply Br.df); · exact ab_known)
      | (with_reducible first | refine Br.dec (fun hc => ?_) (fun hc => ?_) | refine Br.mk (fun hc => ?_) (fun hc => ?_))
      | (refine PreP.mk (hpk _) ?_)
      | (refine OptP.some hlk ?_)
      | ((with_reducible first | apply NeedRows.mk | apply NeedMap.mk | apply NeedIter.mk); · exact ab_look)
      | ((with_reducible apply NeedLen.mk); · first | assumption | rfl)
      | ((with_reducible apply NeedRow.mk); · exact ab_lookR)
      | ((with_reducible apply DrawG.mk (List.replicate 60 false)); · decide +kernel)
      | (with_reducible first | refine NewP.mk (fun id hid => ?_) | refine NilP.mk (fun e he => ?_))
      | (with_reducible first | exact trivial | exact And.intro rfl rfl)
      | ((with_reducible apply PreP.mk); · exact ab_asked)
      | refine Exists.intro _ (PreP.mk (bytesOf_lst _) ?_)
      | refine PreP.mk (lenD_lst _) ?_
      | (with_reducible first | refine PreP.mk ?_ ?_ | refine BothP.mk ?_ ?_)
      | ((with_reducible apply AncOr.anc); · decide +kernel)
      | with_reducible refine AncOr.go ?_)
    refine Run.keep [(0, .ptr r 0 0), (3, i64 (low - 1)), (4, .ptr id 0 0), (5, boolD (decide (low - 1 + 1 ∈ l.map (·.1))))] ⟨rfl, slot64 rfl (by omega) (by omega), rfl, congrArg (fun b => some (boolD b)) (decide_eq_true (by rw [← hw0]; exact hin)).symm, trivial⟩ ?_
    refine Run.rounds (fun (j : Nat) T H2 => ∃ (n : Int) (id4 : Nat) (s t : Int) (g : List UInt8) (e : P), NoRows e ∧ n = low - 1 + j ∧ T = [(0, .ptr r 0 0), (3, i64 n), (4, .ptr id4 0 0), (5, boolD (decide (n + 1 ∈ l.map (·.1))))] ∧
      nth H2 id4 = some (.rows [[i64 s, i64 t, .p (.str g), .p e]]) ∧ (∃ x, H2 = H ++ x) ∧ (∀ i, low ≤ i → i ≤ n → i ∈ l.map (·.1)) ∧ n ≤ 1000) (fun j => 1001 - j) ?_ (x := 0)
      ⟨low - 1, _, _, _, _, _, .inr rfl, by omega, rfl, nth_setN_same (nth_new hid), ⟨_, setN_last hid⟩, fun i h1 h2 => by omega, by omega⟩
    rintro j T H2 ⟨n, id4, s4, t4, g4, e4, he4, hn, rfl, hrow4, ⟨x, rfl⟩, hall, hn1⟩ ih
    have h1' := nth_app (l' := x) h1
    have h2' := nth_app (l' := x) h2
    have hltr := nth_lt h1'
    have hltm := nth_lt h2'
    have hw1 : IntKind.i64.wrap (n + 1) = n + 1 := wrap64 (by omega) (by omega)
    have hw2 : IntKind.i64.wrap (IntKind.i64.wrap (n + 1) + 1) = n + 1 + 1 := by rw [hw1, wrap64 (by omega) (by omega)]
    rcases he4 with rfl | rfl
    · skip
      by_cases hn2 : n + 1 ∈ l.map (·.1)
      · rw [decide_eq_true hn2]
        have hk1 := hk _ hn2
        have hall' : ∀ i, low ≤ i → i ≤ n + 1 → i ∈ l.map (·.1) := fun i h1 h2 => by
          rcases Int.lt_or_le n i with q | q
          · obtain rfl : i = n + 1 := by omega
            exact hn2
          · exact hall i h1 q
        by_cases hn3 : IntKind.i64.wrap (IntKind.i64.wrap (n + 1) + 1) ∈ l.map (·.1)
        · obtain ⟨t, ht, hlk⟩ := lookE_in hn3
          refine Run.walk hm Try.func11 100 ?_
          repeat' (first
            | ((with_reducible apply Onw.mk); conv => whnf)
            | (with_reducible first | apply Br.tt | apply Br.ff | apply Br.no)
            | ((with_reducible apply Br.t); · assumption)
            | ((with_reducible apply Br.f); · assumption)
            | ((with_reducible apply Br.dt); · exact ab_known)
            | ((with_reducible apply Br.df); · exact ab_known)
            | (with_reducible first | refine Br.dec (fun hc => ?_) (fun hc => ?_) | refine Br.mk (fun hc => ?_) (fun hc => ?_))
            | (refine PreP.mk (hpk _) ?_)
            | (refine OptP.some hlk ?_)
            | ((with_reducible first | apply NeedRows.mk | apply NeedMap.mk | apply NeedIter.mk); · exact ab_look)
            | ((with_reducible apply NeedLen.mk); · first | assumption | rfl)
            | ((with_reducible apply NeedRow.mk); · exact ab_lookR)
            | ((with_reducible apply DrawG.mk (List.replicate 60 false)); · decide +kernel)
            | (with_reducible first | refine NewP.mk (fun id hid => ?_) | refine NilP.mk (fun e he => ?_))
            | (with_reducible first | exact trivial | exact And.intro rfl rfl)
            | ((with_reducible apply PreP.mk); · exact ab_asked)
            | refine Exists.intro _ (PreP.mk (bytesOf_lst _) ?_)
            | refine PreP.mk (lenD_lst _) ?_
            | (with_reducible first | refine PreP.mk ?_ ?_ | refine BothP.mk ?_ ?_)
            | ((with_reducible apply AncOr.anc); · decide +kernel)
            | with_reducible refine AncOr.go ?_)
          refine Run.keep _ ?_ (ih (j + 1) _ _ (by omega) ⟨n + 1, id, s4, t4, g4, _, .inl rfl, by omega, rfl, nth_setN_same (nth_new hid), ⟨_, (setN_last hid).trans (List.append_assoc _ _ _)⟩, hall', by omega⟩)
          exact ⟨rfl, slot64 rfl (by omega) (by omega), rfl, congrArg (fun b => some (boolD b)) (decide_eq_true (by rw [← hw2]; exact hn3)).symm, trivial⟩
        · have hlk := lookE_out hn3
          refine Run.walk hm Try.func11 100 ?_
          repeat' (first
            | ((with_reducible apply Onw.mk); conv => whnf)
            | (with_reducible first | apply Br.tt | apply Br.ff | apply Br.no)
            | ((with_reducible apply Br.t); · assumption)
            | ((with_reducible apply Br.f); · assumption)
            | ((with_reducible apply Br.dt); · exact ab_known)
            | ((with_reducible apply Br.df); · exact ab_known)
            | (with_reducible first | refine Br.dec (fun hc => ?_) (fun hc => ?_) | refine Br.mk (fun hc => ?_) (fun hc => ?_))
            | (refine PreP.mk (hpk _) ?_)
            | (refine OptP.none hlk ?_)
            | ((with_reducible first | apply NeedRows.mk | apply NeedMap.mk | apply NeedIter.mk); · exact ab_look)
            | ((with_reducible apply NeedLen.mk); · first | assumption | rfl)
            | ((with_reducible apply NeedRow.mk); · exact ab_lookR)
            | ((with_reducible apply DrawG.mk (List.replicate 60 false)); · decide +kernel)
            | (with_reducible first | refine NewP.mk (fun id hid => ?_) | refine NilP.mk (fun e he => ?_))
            | (with_reducible first | exact trivial | exact And.intro rfl rfl)
            | ((with_reducible apply PreP.mk); · exact ab_asked)
            | refine Exists.intro _ (PreP.mk (bytesOf_lst _) ?_)
            | refine PreP.mk (lenD_lst _) ?_
            | (with_reducible first | refine PreP.mk ?_ ?_ | refine BothP.mk ?_ ?_)
            | ((with_reducible apply AncOr.anc); · decide +kernel)
            | with_reducible refine AncOr.go ?_)
          refine Run.keep _ ?_ (ih (j + 1) _ _ (by omega) ⟨n + 1, id, s4, t4, g4, _, .inl rfl, by omega, rfl, nth_setN_same (nth_new hid), ⟨_, (setN_last hid).trans (List.append_assoc _ _ _)⟩, hall', by omega⟩)
          exact ⟨rfl, slot64 rfl (by omega) (by omega), rfl, congrArg (fun b => some (boolD b)) (decide_eq_false (by rw [← hw2]; exact hn3)).symm, trivial⟩
      · rw [decide_eq_false hn2]
        refine Run.walk hm Try.func11 100 ?_
        repeat' (first
          | ((with_reducible apply Onw.mk); conv => whnf)
          | (with_reducible first | apply Br.tt | apply Br.ff | apply Br.no)
          | ((with_reducible apply Br.t); · assumption)
          | ((with_reducible apply Br.f); · assumption)
          | ((with_reducible apply Br.dt); · exact ab_known)
          | ((with_reducible apply Br.df); · exact ab_known)
          | (with_reducible first | refine Br.dec (fun hc => ?_) (fun hc => ?_) | refine Br.mk (fun hc => ?_) (fun hc => ?_))
          | ((with_reducible first | apply NeedRows.mk | apply NeedMap.mk | apply NeedIter.mk); · exact ab_look)
          | ((with_reducible apply NeedLen.mk); · first | assumption | rfl)
          | ((with_reducible apply NeedRow.mk); · exact ab_lookR)
          | ((with_reducible apply DrawG.mk (List.replicate 60 false)); · decide +kernel)
          | (with_reducible first | refine NewP.mk (fun id hid => ?_) | refine NilP.mk (fun e he => ?_))
          | (with_reducible first | exact trivial | exact And.intro rfl rfl)
          | ((with_reducible apply PreP.mk); · exact ab_asked)
          | refine Exists.intro _ (PreP.mk (bytesOf_lst _) ?_)
          | refine PreP.mk (lenD_lst _) ?_
          | (with_reducible first | refine PreP.mk ?_ ?_ | refine BothP.mk ?_ ?_)
          | ((with_reducible apply AncOr.anc); · decide +kernel)
          | with_reducible refine AncOr.go ?_)
        exact ⟨⟨n, rfl, by omega, hall, hn2⟩, _, rfl⟩
    · skip
      by_cases hn2 : n + 1 ∈ l.map (·.1)
      · rw [decide_eq_true hn2]
        have hk1 := hk _ hn2
        have hall' : ∀ i, low ≤ i → i ≤ n + 1 → i ∈ l.map (·.1) := fun i h1 h2 => by
          rcases Int.lt_or_le n i with q | q
          · obtain rfl : i = n + 1 := by omega
            exact hn2
          · exact hall i h1 q
        by_cases hn3 : IntKind.i64.wrap (IntKind.i64.wrap (n + 1) + 1) ∈ l.map (·.1)
        · obtain ⟨t, ht, hlk⟩ := lookE_in hn3
          refine Run.walk hm Try.func11 100 ?_
          repeat' (first
            | ((with_reducible apply Onw.mk); conv => whnf)
            | (with_reducible first | apply Br.tt | apply Br.ff | apply Br.no)
            | ((with_reducible apply Br.t); · assumption)
            | ((with_reducible apply Br.f); · assumption)
            | ((with_reducible apply Br.dt); · exact ab_known)
            | ((with_reducible apply Br.df); · exact ab_known)
            | (with_reducible first | refine Br.dec (fun hc => ?_) (fun hc => ?_) | refine Br.mk (fun hc => ?_) (fun hc => ?_))
            | (refine PreP.mk (hpk _) ?_)
            | (refine OptP.some hlk ?_)
            | ((with_reducible first | apply NeedRows.mk | apply NeedMap.mk | apply NeedIter.mk); · exact ab_look)
            | ((with_reducible apply NeedLen.mk); · first | assumption | rfl)
            | ((with_reducible apply NeedRow.mk); · exact ab_lookR)
            | ((with_reducible apply DrawG.mk (List.replicate 60 false)); · decide +kernel)
            | (with_reducible first | refine NewP.mk (fun id hid => ?_) | refine NilP.mk (fun e he => ?_))
            | (with_reducible first | exact trivial | exact And.intro rfl rfl)
            | ((with_reducible apply PreP.mk); · exact ab_asked)
            | refine Exists.intro _ (PreP.mk (bytesOf_lst _) ?_)
            | refine PreP.mk (lenD_lst _) ?_
            | (with_reducible first | refine PreP.mk ?_ ?_ | refine BothP.mk ?_ ?_)
            | ((with_reducible apply AncOr.anc); · decide +kernel)
            | with_reducible refine AncOr.go ?_)
          refine Run.keep _ ?_ (ih (j + 1) _ _ (by omega) ⟨n + 1, id, s4, t4, g4, _, .inr rfl, by omega, rfl, nth_setN_same (nth_new hid), ⟨_, (setN_last hid).trans (List.append_assoc _ _ _)⟩, hall', by omega⟩)
          exact ⟨rfl, slot64 rfl (by omega) (by omega), rfl, congrArg (fun b => some (boolD b)) (decide_eq_true (by rw [← hw2]; exact hn3)).symm, trivial⟩
        · have hlk := lookE_out hn3
          refine Run.walk hm Try.func11 100 ?_
          repeat' (first
            | ((with_reducible apply Onw.mk); conv => whnf)
            | (with_reducible first | apply Br.tt | apply Br.ff | apply Br.no)
            | ((with_reducible apply Br.t); · assumption)
            | ((with_reducible apply Br.f); · assumption)
            | ((with_reducible apply Br.dt); · exact ab_known)
            | ((with_reducible apply Br.df); · exact ab_known)
            | (with_reducible first | refine Br.dec (fun hc => ?_) (fun hc => ?_) | refine Br.mk (fun hc => ?_) (fun hc => ?_))
            | (refine PreP.mk (hpk _) ?_)
            | (refine OptP.none hlk ?_)
            | ((with_reducible first | apply NeedRows.mk | apply NeedMap.mk | apply NeedIter.mk); · exact ab_look)
            | ((with_reducible apply NeedLen.mk); · first | assumption | rfl)
            | ((with_reducible apply NeedRow.mk); · exact ab_lookR)
            | ((with_reducible apply DrawG.mk (List.replicate 60 false)); · decide +kernel)
            | (with_reducible first | refine NewP.mk (fun id hid => ?_) | refine NilP.mk (fun e he => ?_))
            | (with_reducible first | exact trivial | exact And.intro rfl rfl)
            | ((with_reducible apply PreP.mk); · exact ab_asked)
            | refine Exists.intro _ (PreP.mk (bytesOf_lst _) ?_)
            | refine PreP.mk (lenD_lst _) ?_
            | (with_reducible first | refine PreP.mk ?_ ?_ | refine BothP.mk ?_ ?_)
            | ((with_reducible apply AncOr.anc); · decide +kernel)
            | with_reducible refine AncOr.go ?_)
          refine Run.keep _ ?_ (ih (j + 1) _ _ (by omega) ⟨n + 1, id, s4, t4, g4, _, .inr rfl, by omega, rfl, nth_setN_same (nth_new hid), ⟨_, (setN_last hid).trans (List.append_assoc _ _ _)⟩, hall', by omega⟩)
          exact ⟨rfl, slot64 rfl (by omega) (by omega), rfl, congrArg (fun b => some (boolD b)) (decide_eq_false (by rw [← hw2]; exact hn3)).symm, trivial⟩
      · rw [decide_eq_false hn2]
        refine Run.walk hm Try.func11 100 ?_
        repeat' (first
          | ((with_reducible apply Onw.mk); conv => whnf)
          | (with_reducible first | apply Br.tt | apply Br.ff | apply Br.no)
          | ((with_reducible apply Br.t); · assumption)
          | ((with_reducible apply Br.f); · assumption)
          | ((with_reducible apply Br.dt); · exact ab_known)
          | ((with_reducible apply Br.df); · exact ab_known)
          | (with_reducible first | refine Br.dec (fun hc => ?_) (fun hc => ?_) | refine Br.mk (fun hc => ?_) (fun hc => ?_))
          | ((with_reducible first | apply NeedRows.mk | apply NeedMap.mk | apply NeedIter.mk); · exact ab_look)
          | ((with_reducible apply NeedLen.mk); · first | assumption | rfl)
          | ((with_reducible apply NeedRow.mk); · exact ab_lookR)
          | ((with_reducible apply DrawG.mk (List.replicate 60 false)); · decide +kernel)
          | (with_reducible first | refine NewP.mk (fun id hid => ?_) | refine NilP.mk (fun e he => ?_))
          | (with_reducible first | exact trivial | exact And.intro rfl rfl)
          | ((with_reducible apply PreP.mk); · exact ab_asked)
          | refine Exists.intro _ (PreP.mk (bytesOf_lst _) ?_)
          | refine PreP.mk (lenD_lst _) ?_
          | (with_reducible first | refine PreP.mk ?_ ?_ | refine BothP.mk ?_ ?_)
          | ((with_reducible apply AncOr.anc); · decide +kernel)
          | with_reducible refine AncOr.go ?_)
        exact ⟨⟨n, rfl, by omega, hall, hn2⟩, _, rfl⟩
  · have hlk := lookE_out hin
    repeat' (first
      | ((with_reducible apply Onw.mk); conv => whnf)
      | (with_reducible first | apply Br.tt | apply Br.ff | apply Br.no)
      | ((with_reducible apply Br.t); · assumption)
      | ((with_reducible apply Br.f); · assumption)
      | ((with_reducible apply Br.dt); · exact ab_known)
      | ((with_reducible apply Br.df); · exact ab_known)
      | (with_reducible first | refine Br.dec (fun hc => ?_) (fun hc => ?_) | refine Br.mk (fun hc => ?_) (fun hc => ?_))
      | (refine PreP.mk (hpk _) ?_)
      | (refine OptP.none hlk ?_)
      | ((with_reducible first | apply NeedRows.mk | apply NeedMap.mk | apply NeedIter.mk); · exact ab_look)
      | ((with_reducible apply NeedLen.mk); · first | assumption | rfl)
      | ((with_reducible apply NeedRow.mk); · exact ab_lookR)
      | ((with_reducible apply DrawG.mk (List.replicate 60 false)); · decide +kernel)
      | (with_reducible first | refine NewP.mk (fun id hid => ?_) | refine NilP.mk (fun e he => ?_))
      | (with_reducible first | exact trivial | exact And.intro rfl rfl)
      | ((with_reducible apply PreP.mk); · exact ab_asked)
      | refine Exists.intro _ (PreP.mk (bytesOf_lst _) ?_)
      | refine PreP.mk (lenD_lst _) ?_
      | (with_reducible first | refine PreP.mk ?_ ?_ | refine BothP.mk ?_ ?_)
      | ((with_reducible apply AncOr.anc); · decide +kernel)
      | with_reducible refine AncOr.go ?_)
    refine Run.keep [(0, .ptr r 0 0), (3, i64 (low - 1)), (4, .ptr id 0 0), (5, boolD (decide (low - 1 + 1 ∈ l.map (·.1))))] ⟨rfl, slot64 rfl (by omega) (by omega), rfl, congrArg (fun b => some (boolD b)) (decide_eq_false (by rw [← hw0]; exact hin)).symm, trivial⟩ ?_
    refine Run.rounds (fun (j : Nat) T H2 => ∃ (n : Int) (id4 : Nat) (s t : Int) (g : List UInt8) (e : P), NoRows e ∧ n = low - 1 + j ∧ T = [(0, .ptr r 0 0), (3, i64 n), (4, .ptr id4 0 0), (5, boolD (decide (n + 1 ∈ l.map (·.1))))] ∧
      nth H2 id4 = some (.rows [[i64 s, i64 t, .p (.str g), .p e]]) ∧ (∃ x, H2 = H ++ x) ∧ (∀ i, low ≤ i → i ≤ n → i ∈ l.map (·.1)) ∧ n ≤ 1000) (fun j => 1001 - j) ?_ (x := 0)
      ⟨low - 1, _, _, _, _, _, .inl rfl, by omega, rfl, nth_setN_same (nth_new hid), ⟨_, setN_last hid⟩, fun i h1 h2 => by omega, by omega⟩
    rintro j T H2 ⟨n, id4, s4, t4, g4, e4, he4, hn, rfl, hrow4, ⟨x, rfl⟩, hall, hn1⟩ ih
    have h1' := nth_app (l' := x) h1
    have h2' := nth_app (l' := x) h2
    have hltr := nth_lt h1'
    have hltm := nth_lt h2'
    have hw1 : IntKind.i64.wrap (n + 1) = n + 1 := wrap64 (by omega) (by omega)
    have hw2 : IntKind.i64.wrap (IntKind.i64.wrap (n + 1) + 1) = n + 1 + 1 := by rw [hw1, wrap64 (by omega) (by omega)]
    rcases he4 with rfl | rfl
    · skip
      by_cases hn2 : n + 1 ∈ l.map (·.1)
      · rw [decide_eq_true hn2]
        have hk1 := hk _ hn2
        have hall' : ∀ i, low ≤ i → i ≤ n + 1 → i ∈ l.map (·.1) := fun i h1 h2 => by
          rcases Int.lt_or_le n i with q | q
          · obtain rfl : i = n + 1 := by omega
            exact hn2
          · exact hall i h1 q
        by_cases hn3 : IntKind.i64.wrap (IntKind.i64.wrap (n + 1) + 1) ∈ l.map (·.1)
        · obtain ⟨t, ht, hlk⟩ := lookE_in hn3
          refine Run.walk hm Try.func11 100 ?_
          repeat' (first
            | ((with_reducible apply Onw.mk); conv => whnf)
            | (with_reducible first | apply Br.tt | apply Br.ff | apply Br.no)
            | ((with_reducible apply Br.t); · assumption)
            | ((with_reducible apply Br.f); · assumption)
            | ((with_reducible apply Br.dt); · exact ab_known)
            | ((with_reducible apply Br.df); · exact ab_known)
            | (with_reducible first | refine Br.dec (fun hc => ?_) (fun hc => ?_) | refine Br.mk (fun hc => ?_) (fun hc => ?_))
            | (refine PreP.mk (hpk _) ?_)
            | (refine OptP.some hlk ?_)
            | ((with_reducible first | apply NeedRows.mk | apply NeedMap.mk | apply NeedIter.mk); · exact ab_look)
            | ((with_reducible apply NeedLen.mk); · first | assumption | rfl)
            | ((with_reducible apply NeedRow.mk); · exact ab_lookR)
            | ((with_reducible apply DrawG.mk (List.replicate 60 false)); · decide +kernel)
            | (with_reducible first | refine NewP.mk (fun id hid => ?_) | refine NilP.mk (fun e he => ?_))
            | (with_reducible first | exact trivial | exact And.intro rfl rfl)
            | ((with_reducible apply PreP.mk); · exact ab_asked)
            | refine Exists.intro _ (PreP.mk (bytesOf_lst _) ?_)
            | refine PreP.mk (lenD_lst _) ?_
            | (with_reducible first | refine PreP.mk ?_ ?_ | refine BothP.mk ?_ ?_)
            | ((with_reducible apply AncOr.anc); · decide +kernel)
            | with_reducible refine AncOr.go ?_)
          refine Run.keep _ ?_ (ih (j + 1) _ _ (by omega) ⟨n + 1, id, s4, t4, g4, _, .inl rfl, by omega, rfl, nth_setN_same (nth_new hid), ⟨_, (setN_last hid).trans (List.append_assoc _ _ _)⟩, hall', by omega⟩)
          exact ⟨rfl, slot64 rfl (by omega) (by omega), rfl, congrArg (fun b => some (boolD b)) (decide_eq_true (by rw [← hw2]; exact hn3)).symm, trivial⟩
        · have hlk := lookE_out hn3
          refine Run.walk hm Try.func11 100 ?_
          repeat' (first
            | ((with_reducible apply Onw.mk); conv => whnf)
            | (with_reducible first | apply Br.tt | apply Br.ff | apply Br.no)
            | ((with_reducible apply Br.t); · assumption)
            | ((with_reducible apply Br.f); · assumption)
            | ((with_reducible apply Br.dt); · exact ab_known)
            | ((with_reducible apply Br.df); · exact ab_known)
            | (with_reducible first | refine Br.dec (fun hc => ?_) (fun hc => ?_) | refine Br.mk (fun hc => ?_) (fun hc => ?_))
            | (refine PreP.mk (hpk _) ?_)
            | (refine OptP.none hlk ?_)
            | ((with_reducible first | apply NeedRows.mk | apply NeedMap.mk | apply NeedIter.mk); · exact ab_look)
            | ((with_reducible apply NeedLen.mk); · first | assumption | rfl)
            | ((with_reducible apply NeedRow.mk); · exact ab_lookR)
            | ((with_reducible apply DrawG.mk (List.replicate 60 false)); · decide +kernel)
            | (with_reducible first | refine NewP.mk (fun id hid => ?_) | refine NilP.mk (fun e he => ?_))
            | (with_reducible first | exact trivial | exact And.intro rfl rfl)
            | ((with_reducible apply PreP.mk); · exact ab_asked)
            | refine Exists.intro _ (PreP.mk (bytesOf_lst _) ?_)
            | refine PreP.mk (lenD_lst _) ?_
            | (with_reducible first | refine PreP.mk ?_ ?_ | refine BothP.mk ?_ ?_)
            | ((with_reducible apply AncOr.anc); · decide +kernel)
            | with_reducible refine AncOr.go ?_)
          refine Run.keep _ ?_ (ih (j + 1) _ _ (by omega) ⟨n + 1, id, s4, t4, g4, _, .inl rfl, by omega, rfl, nth_setN_same (nth_new hid), ⟨_, (setN_last hid).trans (List.append_assoc _ _ _)⟩, hall', by omega⟩)
          exact ⟨rfl, slot64 rfl (by omega) (by omega), rfl, congrArg (fun b => some (boolD b)) (decide_eq_false (by rw [← hw2]; exact hn3)).symm, trivial⟩
      · rw [decide_eq_false hn2]
        refine Run.walk hm Try.func11 100 ?_
        repeat' (first
          | ((with_reducible apply Onw.mk); conv => whnf)
          | (with_reducible first | apply Br.tt | apply Br.ff | apply Br.no)
          | ((with_reducible apply Br.t); · assumption)
          | ((with_reducible apply Br.f); · assumption)
          | ((with_reducible apply Br.dt); · exact ab_known)
          | ((with_reducible apply Br.df); · exact ab_known)
          | (with_reducible first | refine Br.dec (fun hc => ?_) (fun hc => ?_) | refine Br.mk (fun hc => ?_) (fun hc => ?_))
          | ((with_reducible first | apply NeedRows.mk | apply NeedMap.mk | apply NeedIter.mk); · exact ab_look)
          | ((with_reducible apply NeedLen.mk); · first | assumption | rfl)
          | ((with_reducible apply NeedRow.mk); · exact ab_lookR)
          | ((with_reducible apply DrawG.mk (List.replicate 60 false)); · decide +kernel)
          | (with_reducible first | refine NewP.mk (fun id hid => ?_) | refine NilP.mk (fun e he => ?_))
          | (with_reducible first | exact trivial | exact And.intro rfl rfl)
          | ((with_reducible apply PreP.mk); · exact ab_asked)
          | refine Exists.intro _ (PreP.mk (bytesOf_lst _) ?_)
          | refine PreP.mk (lenD_lst _) ?_
          | (with_reducible first | refine PreP.mk ?_ ?_ | refine BothP.mk ?_ ?_)
          | ((with_reducible apply AncOr.anc); · decide +kernel)
          | with_reducible refine AncOr.go ?_)
        exact ⟨⟨n, rfl, by omega, hall, hn2⟩, _, rfl⟩
    · skip
      by_cases hn2 : n + 1 ∈ l.map (·.1)
      · rw [decide_eq_true hn2]
        have hk1 := hk _ hn2
        have hall' : ∀ i, low ≤ i → i ≤ n + 1 → i ∈ l.map (·.1) := fun i h1 h2 => by
          rcases Int.lt_or_le n i with q | q
          · obtain rfl : i = n + 1 := by omega
            exact hn2
          · exact hall i h1 q
        by_cases hn3 : IntKind.i64.wrap (IntKind.i64.wrap (n + 1) + 1) ∈ l.map (·.1)
        · obtain ⟨t, ht, hlk⟩ := lookE_in hn3
          refine Run.walk hm Try.func11 100 ?_
          repeat' (first
            | ((with_reducible apply Onw.mk); conv => whnf)
            | (with_reducible first | apply Br.tt | apply Br.ff | apply Br.no)
            | ((with_reducible apply Br.t); · assumption)
            | ((with_reducible apply Br.f); · assumption)
            | ((with_reducible apply Br.dt); · exact ab_known)
            | ((with_reducible apply Br.df); · exact ab_known)
            | (with_reducible first | refine Br.dec (fun hc => ?_) (fun hc => ?_) | refine Br.mk (fun hc => ?_) (fun hc => ?_))
            | (refine PreP.mk (hpk _) ?_)
            | (refine OptP.some hlk ?_)
            | ((with_reducible first | apply NeedRows.mk | apply NeedMap.mk | apply NeedIter.mk); · exact ab_look)
            | ((with_reducible apply NeedLen.mk); · first | assumption | rfl)
            | ((with_reducible apply NeedRow.mk); · exact ab_lookR)
            | ((with_reducible apply DrawG.mk (List.replicate 60 false)); · decide +kernel)
            | (with_reducible first | refine NewP.mk (fun id hid => ?_) | refine NilP.mk (fun e he => ?_))
            | (with_reducible first | exact trivial | exact And.intro rfl rfl)
            | ((with_reducible apply PreP.mk); · exact ab_asked)
            | refine Exists.intro _ (PreP.mk (bytesOf_lst _) ?_)
            | refine PreP.mk (lenD_lst _) ?_
            | (with_reducible first | refine PreP.mk ?_ ?_ | refine BothP.mk ?_ ?_)
            | ((with_reducible apply AncOr.anc); · decide +kernel)
            | with_reducible refine AncOr.go ?_)
          refine Run.keep _ ?_ (ih (j + 1) _ _ (by omega) ⟨n + 1, id, s4, t4, g4, _, .inr rfl, by omega, rfl, nth_setN_same (nth_new hid), ⟨_, (setN_last hid).trans (List.append_assoc _ _ _)⟩, hall', by omega⟩)
          exact ⟨rfl, slot64 rfl (by omega) (by omega), rfl, congrArg (fun b => some (boolD b)) (decide_eq_true (by rw [← hw2]; exact hn3)).symm, trivial⟩
        · have hlk := lookE_out hn3
          refine Run.walk hm Try.func11 100 ?_
          repeat' (first
            | ((with_reducible apply Onw.mk); conv => whnf)
            | (with_reducible first | apply Br.tt | apply Br.ff | apply Br.no)
            | ((with_reducible apply Br.t); · assumption)
            | ((with_reducible apply Br.f); · assumption)
            | ((with_reducible apply Br.dt); · exact ab_known)
            | ((with_reducible apply Br.df); · exact ab_known)
            | (with_reducible first | refine Br.dec (fun hc => ?_) (fun hc => ?_) | refine Br.mk (fun hc => ?_) (fun hc => ?_))
            | (refine PreP.mk (hpk _) ?_)
            | (refine OptP.none hlk ?_)
            | ((with_reducible first | apply NeedRows.mk | apply NeedMap.mk | apply NeedIter.mk); · exact ab_look)
            | ((with_reducible apply NeedLen.mk); · first | assumption | rfl)
            | ((with_reducible apply NeedRow.mk); · exact ab_lookR)
            | ((with_reducible apply DrawG.mk (List.replicate 60 false)); · decide +kernel)
            | (with_reducible first | refine NewP.mk (fun id hid => ?_) | refine NilP.mk (fun e he => ?_))
            | (with_reducible first | exact trivial | exact And.intro rfl rfl)
            | ((with_reducible apply PreP.mk); · exact ab_asked)
            | refine Exists.intro _ (PreP.mk (bytesOf_lst _) ?_)
            | refine PreP.mk (lenD_lst _) ?_
            | (with_reducible first | refine PreP.mk ?_ ?_ | refine BothP.mk ?_ ?_)
            | ((with_reducible apply AncOr.anc); · decide +kernel)
            | with_reducible refine AncOr.go ?_)
          refine Run.keep _ ?_ (ih (j + 1) _ _ (by omega) ⟨n + 1, id, s4, t4, g4, _, .inr rfl, by omega, rfl, nth_setN_same (nth_new hid), ⟨_, (setN_last hid).trans (List.append_assoc _ _ _)⟩, hall', by omega⟩)
          exact ⟨rfl, slot64 rfl (by omega) (by omega), rfl, congrArg (fun b => some (boolD b)) (decide_eq_false (by rw [← hw2]; exact hn3)).symm, trivial⟩
      · rw [decide_eq_false hn2]
        refine Run.walk hm Try.func11 100 ?_
        repeat' (first
          | ((with_reducible apply Onw.mk); conv => whnf)
          | (with_reducible first | apply Br.tt | apply Br.ff | apply Br.no)
          | ((with_reducible apply Br.t); · assumption)
          | ((with_reducible apply Br.f); · assumption)
          | ((with_reducible apply Br.dt); · exact ab_known)
          | ((with_reducible apply Br.df); · exact ab_known)
          | (with_reducible first | refine Br.dec (fun hc => ?_) (fun hc => ?_) | refine Br.mk (fun hc => ?_) (fun hc => ?_))
          | ((with_reducible first | apply NeedRows.mk | apply NeedMap.mk | apply NeedIter.mk); · exact ab_look)
          | ((with_reducible apply NeedLen.mk); · first | assumption | rfl)
          | ((with_reducible apply NeedRow.mk); · exact ab_lookR)
          | ((with_reducible apply DrawG.mk (List.replicate 60 false)); · decide +kernel)
          | (with_reducible first | refine NewP.mk (fun id hid => ?_) | refine NilP.mk (fun e he => ?_))
          | (with_reducible first | exact trivial | exact And.intro rfl rfl)
          | ((with_reducible apply PreP.mk); · exact ab_asked)
          | refine Exists.intro _ (PreP.mk (bytesOf_lst _) ?_)
          | refine PreP.mk (lenD_lst _) ?_
          | (with_reducible first | refine PreP.mk ?_ ?_ | refine BothP.mk ?_ ?_)
          | ((with_reducible apply AncOr.anc); · decide +kernel)
          | with_reducible refine AncOr.go ?_)
        exact ⟨⟨n, rfl, by omega, hall, hn2⟩, _, rfl⟩
end Go.Proofs.Ytjlhkbikconboaa
