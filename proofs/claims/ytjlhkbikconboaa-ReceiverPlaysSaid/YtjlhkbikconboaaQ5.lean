/- What functions of the receiver, of labels, rows, batches, and of the laws over them, do. Conditions: those that each theorem names. -/
import Derived.Test.YtjlhkbikconboaaQ4
set_option linter.unusedVariables false
set_option linter.unusedSimpArgs false
namespace Go.Proofs.Ytjlhkbikconboaa
open Go.Ab
set_option maxRecDepth 100000
set_option maxHeartbeats 1000000
attribute [local irreducible] Run CallOK DetCall Br PreP BothP AncOr Onw NeedRows NeedMap NeedRow NeedLen NilP NeedIter RoundP EntryP EqP OptP NewP NewSlice NewMade AppTo DrawG anc drawB
def orI (a b : Int) : Int := if a = 0 then b else a
def cmpP (x y : Pair) : Int := orI (Lib.compareBytes x.1 y.1) (Lib.compareBytes x.2 y.2)
def cmpL : List Pair → List Pair → Int
  | [], [] => 0
  | [], _ :: _ => -1
  | _ :: _, [] => 1
  | x :: xs, y :: ys => orI (cmpP x y) (cmpL xs ys)
theorem q60 (a b : Int) (H : Heap) : Ab.Spec Try.prog 60 [.p (.lst [[.int .i64 a], [.int .i64 b]])] H (fun r H' => H' = H ∧ r = i64 (orI a b)) := by
  have h0 : (0 : Int) ≤ 0 ∧ (0 : Int) < (([[.int .i64 a], [.int .i64 b]] : List (List P)).length : Int) ∧ (Ab.rowAt [[.int .i64 a], [.int .i64 b]] (Int.toNat 0)).length = 1 := ⟨by omega, by simp, rfl⟩
  have h1 : (0 : Int) ≤ IntKind.i64.wrap (0 + 1) ∧ IntKind.i64.wrap (0 + 1) < (([[.int .i64 a], [.int .i64 b]] : List (List P)).length : Int) ∧ (Ab.rowAt [[.int .i64 a], [.int .i64 b]] (Int.toNat (IntKind.i64.wrap (0 + 1)))).length = 1 := ⟨by decide, by simp; decide, rfl⟩
  refine Ab.Spec.walk hm Try.func60 (by kernel_rfl) 60 ?_
  repeat' (first
    | ((with_reducible apply Onw.mk); conv => whnf)
    | (with_reducible first | apply Br.tt | apply Br.ff | apply Br.no)
    | ((with_reducible apply Br.t); · assumption)
    | ((with_reducible apply Br.f); · assumption)
    | ((with_reducible apply Br.dt); · exact ab_known)
    | ((with_reducible apply Br.df); · exact ab_known)
    | (with_reducible first | refine Br.dec (fun hc => ?_) (fun hc => ?_) | refine Br.mk (fun hc => ?_) (fun hc => ?_))
    | ((with_reducible first | apply NeedRows.mk | apply NeedMap.mk | apply NeedIter.mk); · exact ab_look)
    | ((with_reducible apply NeedLen.mk); · first | assumption | rfl)
    | ((with_reducible apply NeedRow.mk); · exact ab_lookR)
    | ((with_reducible apply DrawG.mk (List.replicate 60 false)); · decide +kernel)
    | (with_reducible first | refine NewP.mk (fun id hid => ?_) | refine NilP.mk (fun e he => ?_))
    | (with_reducible first | exact trivial | exact And.intro rfl rfl)
    | ((with_reducible apply PreP.mk); · exact ab_asked)
    | refine Exists.intro _ (PreP.mk (bytesOf_lst _) ?_)
    | refine PreP.mk (lenD_lst _) ?_
    | (with_reducible first | refine PreP.mk ?_ ?_ | refine BothP.mk ?_ ?_)
    | ((with_reducible apply AncOr.anc); · decide +kernel)
    | with_reducible refine AncOr.go ?_)
  refine Run.walk hm Try.func60 100 ?_
  by_cases ha : a = 0
  · subst ha
    repeat' (first
      | ((with_reducible apply Onw.mk); conv => whnf)
      | (with_reducible first | apply Br.tt | apply Br.ff | apply Br.no)
      | ((with_reducible apply Br.t); · assumption)
      | ((with_reducible apply Br.f); · assumption)
      | ((with_reducible apply Br.dt); · exact ab_known)
      | ((with_reducible apply Br.df); · exact ab_known)
      | (with_reducible first | refine Br.dec (fun hc => ?_) (fun hc => ?_) | refine Br.mk (fun hc => ?_) (fun hc => ?_))
      | (refine PreP.mk h0 ?_)
      | (refine PreP.mk h1 ?_)
      | (refine EqP.mk rfl ?_)
      | ((with_reducible first | apply NeedRows.mk | apply NeedMap.mk | apply NeedIter.mk); · exact ab_look)
      | ((with_reducible apply NeedLen.mk); · first | assumption | rfl)
      | ((with_reducible apply NeedRow.mk); · exact ab_lookR)
      | ((with_reducible apply DrawG.mk (List.replicate 60 false)); · decide +kernel)
      | (with_reducible first | refine NewP.mk (fun id hid => ?_) | refine NilP.mk (fun e he => ?_))
      | (with_reducible first | exact trivial | exact And.intro rfl rfl)
      | ((with_reducible apply PreP.mk); · exact ab_asked)
      | refine Exists.intro _ (PreP.mk (bytesOf_lst _) ?_)
      | refine PreP.mk (lenD_lst _) ?_
      | (with_reducible first | refine PreP.mk ?_ ?_ | refine BothP.mk ?_ ?_)
      | ((with_reducible apply AncOr.anc); · decide +kernel)
      | with_reducible refine AncOr.go ?_)
    refine Run.walk hm Try.func60 100 ?_
    by_cases hb : b = 0
    · subst hb
      repeat' (first
        | ((with_reducible apply Onw.mk); conv => whnf)
        | (with_reducible first | apply Br.tt | apply Br.ff | apply Br.no)
        | ((with_reducible apply Br.t); · assumption)
        | ((with_reducible apply Br.f); · assumption)
        | ((with_reducible apply Br.dt); · exact ab_known)
        | ((with_reducible apply Br.df); · exact ab_known)
        | (with_reducible first | refine Br.dec (fun hc => ?_) (fun hc => ?_) | refine Br.mk (fun hc => ?_) (fun hc => ?_))
        | (refine PreP.mk h0 ?_)
        | (refine PreP.mk h1 ?_)
        | (refine EqP.mk rfl ?_)
        | ((with_reducible first | apply NeedRows.mk | apply NeedMap.mk | apply NeedIter.mk); · exact ab_look)
        | ((with_reducible apply NeedLen.mk); · first | assumption | rfl)
        | ((with_reducible apply NeedRow.mk); · exact ab_lookR)
        | ((with_reducible apply DrawG.mk (List.replicate 60 false)); · decide +kernel)
        | (with_reducible first | refine NewP.mk (fun id hid => ?_) | refine NilP.mk (fun e he => ?_))
        | (with_reducible first | exact trivial | exact And.intro rfl rfl)
        | ((with_reducible apply PreP.mk); · exact ab_asked)
        | refine Exists.intro _ (PreP.mk (bytesOf_lst _) ?_)
        | refine PreP.mk (lenD_lst _) ?_
        | (with_reducible first | refine PreP.mk ?_ ?_ | refine BothP.mk ?_ ?_)
        | ((with_reducible apply AncOr.anc); · decide +kernel)
        | with_reducible refine AncOr.go ?_)
      refine Run.walk hm Try.func60 100 ?_
      repeat' (first
        | ((with_reducible apply Onw.mk); conv => whnf)
        | (with_reducible first | apply Br.tt | apply Br.ff | apply Br.no)
        | ((with_reducible apply Br.t); · assumption)
        | ((with_reducible apply Br.f); · assumption)
        | ((with_reducible apply Br.dt); · exact ab_known)
        | ((with_reducible apply Br.df); · exact ab_known)
        | (with_reducible first | refine Br.dec (fun hc => ?_) (fun hc => ?_) | refine Br.mk (fun hc => ?_) (fun hc => ?_))
        | (refine PreP.mk h0 ?_)
        | (refine PreP.mk h1 ?_)
        | (refine EqP.mk rfl ?_)
        | ((with_reducible first | apply NeedRows.mk | apply NeedMap.mk | apply NeedIter.mk); · exact ab_look)
        | ((with_reducible apply NeedLen.mk); · first | assumption | rfl)
        | ((with_reducible apply NeedRow.mk); · exact ab_lookR)
        | ((with_reducible apply DrawG.mk (List.replicate 60 false)); · decide +kernel)
        | (with_reducible first | refine NewP.mk (fun id hid => ?_) | refine NilP.mk (fun e he => ?_))
        | (with_reducible first | exact trivial | exact And.intro rfl rfl)
        | ((with_reducible apply PreP.mk); · exact ab_asked)
        | refine Exists.intro _ (PreP.mk (bytesOf_lst _) ?_)
        | refine PreP.mk (lenD_lst _) ?_
        | (with_reducible first | refine PreP.mk ?_ ?_ | refine BothP.mk ?_ ?_)
        | ((with_reducible apply AncOr.anc); · decide +kernel)
        | with_reducible refine AncOr.go ?_)
      all_goals exact ⟨rfl, rfl⟩
    · repeat' (first
      | ((with_reducible apply Onw.mk); conv => whnf)
      | (with_reducible first | apply Br.tt | apply Br.ff | apply Br.no)
      | ((with_reducible apply Br.t); · assumption)
      | ((with_reducible apply Br.f); · assumption)
      | ((with_reducible apply Br.dt); · exact ab_known)
      | ((with_reducible apply Br.df); · exact ab_known)
      | (with_reducible first | refine Br.dec (fun hc => ?_) (fun hc => ?_) | refine Br.mk (fun hc => ?_) (fun hc => ?_))
      | (refine PreP.mk h0 ?_)
      | (refine PreP.mk h1 ?_)
      | (refine EqP.mk rfl ?_)
      | ((with_reducible first | apply NeedRows.mk | apply NeedMap.mk | apply NeedIter.mk); · exact ab_look)
      | ((with_reducible apply NeedLen.mk); · first | assumption | rfl)
      | ((with_reducible apply NeedRow.mk); · exact ab_lookR)
      | ((with_reducible apply DrawG.mk (List.replicate 60 false)); · decide +kernel)
      | (with_reducible first | refine NewP.mk (fun id hid => ?_) | refine NilP.mk (fun e he => ?_))
      | (with_reducible first | exact trivial | exact And.intro rfl rfl)
      | ((with_reducible apply PreP.mk); · exact ab_asked)
      | refine Exists.intro _ (PreP.mk (bytesOf_lst _) ?_)
      | refine PreP.mk (lenD_lst _) ?_
      | (with_reducible first | refine PreP.mk ?_ ?_ | refine BothP.mk ?_ ?_)
      | ((with_reducible apply AncOr.anc); · decide +kernel)
      | with_reducible refine AncOr.go ?_)
      all_goals exact ⟨rfl, rfl⟩
  · repeat' (first
    | ((with_reducible apply Onw.mk); conv => whnf)
    | (with_reducible first | apply Br.tt | apply Br.ff | apply Br.no)
    | ((with_reducible apply Br.t); · assumption)
    | ((with_reducible apply Br.f); · assumption)
    | ((with_reducible apply Br.dt); · exact ab_known)
    | ((with_reducible apply Br.df); · exact ab_known)
    | (with_reducible first | refine Br.dec (fun hc => ?_) (fun hc => ?_) | refine Br.mk (fun hc => ?_) (fun hc => ?_))
    | (refine PreP.mk h0 ?_)
    | (refine PreP.mk h1 ?_)
    | (refine EqP.mk rfl ?_)
    | ((with_reducible first | apply NeedRows.mk | apply NeedMap.mk | apply NeedIter.mk); · exact ab_look)
    | ((with_reducible apply NeedLen.mk); · first | assumption | rfl)
    | ((with_reducible apply NeedRow.mk); · exact ab_lookR)
    | ((with_reducible apply DrawG.mk (List.replicate 60 false)); · decide +kernel)
    | (with_reducible first | refine NewP.mk (fun id hid => ?_) | refine NilP.mk (fun e he => ?_))
    | (with_reducible first | exact trivial | exact And.intro rfl rfl)
    | ((with_reducible apply PreP.mk); · exact ab_asked)
    | refine Exists.intro _ (PreP.mk (bytesOf_lst _) ?_)
    | refine PreP.mk (lenD_lst _) ?_
    | (with_reducible first | refine PreP.mk ?_ ?_ | refine BothP.mk ?_ ?_)
    | ((with_reducible apply AncOr.anc); · decide +kernel)
    | with_reducible refine AncOr.go ?_)
    unfold orI
    rw [if_neg ha]
    exact ⟨rfl, rfl⟩
theorem c60 (H : Heap) (a b : Int) : CallOK Try.prog 60 [.p (.lst [[.int .i64 a], [.int .i64 b]])] H (fun r H' => r = i64 (orI a b) ∧ H' = H) := (CallOK.of_spec (q60 a b H)).mono fun _ _ h => ⟨h.2, h.1⟩
theorem q59 (x y : Pair) (H : Heap) : Ab.Spec Try.prog 59 [.p (.agg (pairRow x)), .p (.agg (pairRow y))] H (fun r H' => r = i64 (cmpP x y) ∧ ∃ z, H' = H ++ z) := by
  refine Ab.Spec.walk hm Try.func59 (by kernel_rfl) 60 ?_
  repeat' (first
    | ((with_reducible apply Onw.mk); conv => whnf)
    | (with_reducible first | apply Br.tt | apply Br.ff | apply Br.no)
    | ((with_reducible apply Br.t); · assumption)
    | ((with_reducible apply Br.f); · assumption)
    | ((with_reducible apply Br.dt); · exact ab_known)
    | ((with_reducible apply Br.df); · exact ab_known)
    | (with_reducible first | refine Br.dec (fun hc => ?_) (fun hc => ?_) | refine Br.mk (fun hc => ?_) (fun hc => ?_))
    | (refine CallOK.go (c61 _ _ _) (fun r2 H2 hr2 => ?_); obtain ⟨rfl, he2⟩ := hr2; rw [he2]; clear he2 H2)
    | (refine DetCall.go (c61 _ _ _) ?_)
    | (refine DetCall.go (c60 _ _ _) ?_)
    | (refine NewSlice.lst [[.int .i64 (Lib.compareBytes x.1 y.1)], [.int .i64 (Lib.compareBytes x.2 y.2)]] rfl rfl (fun q hq => by simp at hq; rcases hq with rfl | rfl <;> rfl) ?_)
    | ((with_reducible first | apply NeedRows.mk | apply NeedMap.mk | apply NeedIter.mk); · exact ab_look)
    | ((with_reducible apply NeedLen.mk); · first | assumption | rfl)
    | ((with_reducible apply NeedRow.mk); · exact ab_lookR)
    | ((with_reducible apply DrawG.mk (List.replicate 60 false)); · decide +kernel)
    | (with_reducible first | refine NewP.mk (fun id hid => ?_) | refine NilP.mk (fun e he => ?_))
    | (with_reducible first | exact trivial | exact And.intro rfl rfl)
    | ((with_reducible apply PreP.mk); · exact ab_asked)
    | refine Exists.intro _ (PreP.mk (bytesOf_lst _) ?_)
    | refine PreP.mk (lenD_lst _) ?_
    | (with_reducible first | refine PreP.mk ?_ ?_ | refine BothP.mk ?_ ?_)
    | ((with_reducible apply AncOr.anc); · decide +kernel)
    | with_reducible refine AncOr.go ?_)
  exact ⟨rfl, _, List.append_assoc _ _ _⟩
theorem c59 (H : Heap) (x y : Pair) : CallOK Try.prog 59 [.p (.agg (pairRow x)), .p (.agg (pairRow y))] H (fun r H' => r = i64 (cmpP x y) ∧ H' = H) :=
  (CallOK.trim (Q := fun r => r = i64 (cmpP x y)) ((CallOK.of_spec (q59 x y H)).mono (fun _ _ hr => ⟨hr.2, by rw [hr.1]; rfl, hr.1⟩))).mono (fun _ _ hr => ⟨hr.2.2, hr.1⟩)
theorem drop_cons {α : Type} {l : List α} {i : Nat} {x : α} (h : l[i]? = some x) : l.drop i = x :: l.drop (i + 1) := by
  have hl : i < l.length := by
    rcases Nat.lt_or_ge i l.length with h1 | h1
    · exact h1
    · rw [List.getElem?_eq_none h1] at h; cases h
  rw [List.drop_eq_getElem_cons hl]
  rw [List.getElem?_eq_getElem hl] at h
  simp at h; rw [h]
theorem q58 (x y : List Pair) (hx : x.length ≤ 9223372036854775807) (hy : y.length ≤ 9223372036854775807) (H : Heap) : Ab.Spec Try.prog 58 [.p (.lst (x.map pairRow)), .p (.lst (y.map pairRow)), .fn (.func 59) [] []] H (fun r H' => r = i64 (cmpL x y) ∧ ∃ z, H' = H ++ z) := by
  have hlx : ((x.map pairRow).length : Int) = x.length := by simp
  have hly : ((y.map pairRow).length : Int) = y.length := by simp
  refine Ab.Spec.walk hm Try.func58 (by kernel_rfl) 60 ?_
  repeat' (first
    | ((with_reducible apply Onw.mk); conv => whnf)
    | (with_reducible first | apply Br.tt | apply Br.ff | apply Br.no)
    | ((with_reducible apply Br.t); · assumption)
    | ((with_reducible apply Br.f); · assumption)
    | ((with_reducible apply Br.dt); · exact ab_known)
    | ((with_reducible apply Br.df); · exact ab_known)
    | (with_reducible first | refine Br.dec (fun hc => ?_) (fun hc => ?_) | refine Br.mk (fun hc => ?_) (fun hc => ?_))
    | ((with_reducible first | apply NeedRows.mk | apply NeedMap.mk | apply NeedIter.mk); · exact ab_look)
    | ((with_reducible apply NeedLen.mk); · first | assumption | rfl)
    | ((with_reducible apply NeedRow.mk); · exact ab_lookR)
    | ((with_reducible apply DrawG.mk (List.replicate 60 false)); · decide +kernel)
    | (with_reducible first | refine NewP.mk (fun id hid => ?_) | refine NilP.mk (fun e he => ?_))
    | (with_reducible first | exact trivial | exact And.intro rfl rfl)
    | ((with_reducible apply PreP.mk); · exact ab_asked)
    | refine Exists.intro _ (PreP.mk (bytesOf_lst _) ?_)
    | refine PreP.mk (lenD_lst _) ?_
    | (with_reducible first | refine PreP.mk ?_ ?_ | refine BothP.mk ?_ ?_)
    | ((with_reducible apply AncOr.anc); · decide +kernel)
    | with_reducible refine AncOr.go ?_)
  refine Run.keep [(0, .p (.lst (x.map pairRow))), (1, .p (.lst (y.map pairRow))), (2, .fn (.func 59) [] []), (11, .p (.lst (x.map pairRow))), (12, i64 (x.map pairRow).length), (13, i64 (0 : Nat))] ⟨rfl, rfl, rfl, rfl, rfl, rfl, trivial⟩ ?_
  refine Run.rounds (fun (i : Nat) T H2 => ∃ z, T = [(0, .p (.lst (x.map pairRow))), (1, .p (.lst (y.map pairRow))), (2, .fn (.func 59) [] []), (11, .p (.lst (x.map pairRow))), (12, i64 (x.map pairRow).length), (13, i64 i)] ∧ H2 = H ++ z ∧ i ≤ x.length ∧ i ≤ y.length ∧ cmpL x y = cmpL (x.drop i) (y.drop i)) (fun i => x.length - i) ?_ (x := 0) ⟨[], rfl, by simp, Nat.zero_le _, Nat.zero_le _, rfl⟩
  rintro i T H2 ⟨z, rfl, rfl, hix, hiy, heq⟩ ih
  refine Run.walk hm Try.func58 100 ?_
  rcases Nat.lt_or_ge i x.length with hi | hi
  · have hc1 : (i : Int) < ((x.map pairRow).length : Int) := by rw [hlx]; omega
    obtain ⟨p, hp⟩ : ∃ p, x[i]? = some p := ⟨_, List.getElem?_eq_getElem hi⟩
    have hri : Ab.rowAt (x.map pairRow) (i : Int).toNat = pairRow p := rowAt_map hp
    have hrp : (0 : Int) ≤ (i : Int) ∧ (i : Int) < ((x.map pairRow).length : Int) ∧ (Ab.rowAt (x.map pairRow) (i : Int).toNat).length = 2 := ⟨by omega, hc1, by rw [hri]; rfl⟩
    rw [drop_cons hp] at heq
    rcases Nat.lt_or_ge i y.length with hj | hj
    · have hc2 : ¬ ((y.map pairRow).length : Int) ≤ (i : Int) := by rw [hly]; omega
      obtain ⟨q, hq⟩ : ∃ q, y[i]? = some q := ⟨_, List.getElem?_eq_getElem hj⟩
      have hrj : Ab.rowAt (y.map pairRow) (i : Int).toNat = pairRow q := rowAt_map hq
      have hrq : (0 : Int) ≤ (i : Int) ∧ (i : Int) < ((y.map pairRow).length : Int) ∧ (Ab.rowAt (y.map pairRow) (i : Int).toNat).length = 2 := ⟨by omega, by rw [hly]; omega, by rw [hrj]; rfl⟩
      rw [drop_cons hq] at heq
      repeat' (first
        | ((with_reducible apply Onw.mk); conv => whnf)
        | (with_reducible first | apply Br.tt | apply Br.ff | apply Br.no)
        | ((with_reducible apply Br.t); · assumption)
        | ((with_reducible apply Br.f); · assumption)
        | ((with_reducible apply Br.dt); · exact ab_known)
        | ((with_reducible apply Br.df); · exact ab_known)
        | (with_reducible first | refine Br.dec (fun hc => ?_) (fun hc => ?_) | refine Br.mk (fun hc => ?_) (fun hc => ?_))
        | (refine PreP.mk hrp ?_)
        | (refine EqP.mk hri ?_)
        | (refine PreP.mk hrq ?_)
        | (refine EqP.mk hrj ?_)
        | (refine CallOK.go (c59 _ p q) (fun r2 H2 hr2 => ?_); obtain ⟨rfl, he2⟩ := hr2; rw [he2]; clear he2 H2)
        | ((with_reducible first | apply NeedRows.mk | apply NeedMap.mk | apply NeedIter.mk); · exact ab_look)
        | ((with_reducible apply NeedLen.mk); · first | assumption | rfl)
        | ((with_reducible apply NeedRow.mk); · exact ab_lookR)
        | ((with_reducible apply DrawG.mk (List.replicate 60 false)); · decide +kernel)
        | (with_reducible first | refine NewP.mk (fun id hid => ?_) | refine NilP.mk (fun e he => ?_))
        | (with_reducible first | exact trivial | exact And.intro rfl rfl)
        | ((with_reducible apply PreP.mk); · exact ab_asked)
        | refine Exists.intro _ (PreP.mk (bytesOf_lst _) ?_)
        | refine PreP.mk (lenD_lst _) ?_
        | (with_reducible first | refine PreP.mk ?_ ?_ | refine BothP.mk ?_ ?_)
        | ((with_reducible apply AncOr.anc); · decide +kernel)
        | with_reducible refine AncOr.go ?_)
      all_goals rename_i id0 hid0
      all_goals rw [setN_last hid0] at hid ⊢
      all_goals rw [setN_last hid]
      · refine Run.keep _ ?_ (ih (i + 1) _ _ (by omega) ⟨_, rfl, (List.append_assoc _ _ _).trans ((List.append_assoc _ _ _).trans rfl), by omega, by omega, ?_⟩)
        · exact ⟨rfl, rfl, rfl, rfl, rfl, slot64 (by omega) (by omega) (by omega), trivial⟩
        · rw [heq]; simp only [cmpL, orI, if_pos hc]
      · refine ⟨?_, _, (List.append_assoc _ _ _).trans ((List.append_assoc _ _ _).trans rfl)⟩
        rw [heq]; simp only [cmpL, orI, if_neg hc]; rfl
    · have hc2 : ((y.map pairRow).length : Int) ≤ (i : Int) := by rw [hly]; omega
      repeat' (first
        | ((with_reducible apply Onw.mk); conv => whnf)
        | (with_reducible first | apply Br.tt | apply Br.ff | apply Br.no)
        | ((with_reducible apply Br.t); · assumption)
        | ((with_reducible apply Br.f); · assumption)
        | ((with_reducible apply Br.dt); · exact ab_known)
        | ((with_reducible apply Br.df); · exact ab_known)
        | (with_reducible first | refine Br.dec (fun hc => ?_) (fun hc => ?_) | refine Br.mk (fun hc => ?_) (fun hc => ?_))
        | (refine PreP.mk hrp ?_)
        | (refine EqP.mk hri ?_)
        | ((with_reducible first | apply NeedRows.mk | apply NeedMap.mk | apply NeedIter.mk); · exact ab_look)
        | ((with_reducible apply NeedLen.mk); · first | assumption | rfl)
        | ((with_reducible apply NeedRow.mk); · exact ab_lookR)
        | ((with_reducible apply DrawG.mk (List.replicate 60 false)); · decide +kernel)
        | (with_reducible first | refine NewP.mk (fun id hid => ?_) | refine NilP.mk (fun e he => ?_))
        | (with_reducible first | exact trivial | exact And.intro rfl rfl)
        | ((with_reducible apply PreP.mk); · exact ab_asked)
        | refine Exists.intro _ (PreP.mk (bytesOf_lst _) ?_)
        | refine PreP.mk (lenD_lst _) ?_
        | (with_reducible first | refine PreP.mk ?_ ?_ | refine BothP.mk ?_ ?_)
        | ((with_reducible apply AncOr.anc); · decide +kernel)
        | with_reducible refine AncOr.go ?_)
      rw [setN_last hid]
      refine ⟨?_, _, List.append_assoc _ _ _⟩
      have : y.drop i = [] := List.drop_eq_nil_of_le hj
      rw [heq, this]; rfl
  · have hc1 : ¬ (i : Int) < ((x.map pairRow).length : Int) := by rw [hlx]; omega
    have hx0 : x.drop i = [] := List.drop_eq_nil_of_le hi
    repeat' (first
      | ((with_reducible apply Onw.mk); conv => whnf)
      | (with_reducible first | apply Br.tt | apply Br.ff | apply Br.no)
      | ((with_reducible apply Br.t); · assumption)
      | ((with_reducible apply Br.f); · assumption)
      | ((with_reducible apply Br.dt); · exact ab_known)
      | ((with_reducible apply Br.df); · exact ab_known)
      | (with_reducible first | refine Br.dec (fun hc => ?_) (fun hc => ?_) | refine Br.mk (fun hc => ?_) (fun hc => ?_))
      | ((with_reducible first | apply NeedRows.mk | apply NeedMap.mk | apply NeedIter.mk); · exact ab_look)
      | ((with_reducible apply NeedLen.mk); · first | assumption | rfl)
      | ((with_reducible apply NeedRow.mk); · exact ab_lookR)
      | ((with_reducible apply DrawG.mk (List.replicate 60 false)); · decide +kernel)
      | (with_reducible first | refine NewP.mk (fun id hid => ?_) | refine NilP.mk (fun e he => ?_))
      | (with_reducible first | exact trivial | exact And.intro rfl rfl)
      | ((with_reducible apply PreP.mk); · exact ab_asked)
      | refine Exists.intro _ (PreP.mk (bytesOf_lst _) ?_)
      | refine PreP.mk (lenD_lst _) ?_
      | (with_reducible first | refine PreP.mk ?_ ?_ | refine BothP.mk ?_ ?_)
      | ((with_reducible apply AncOr.anc); · decide +kernel)
      | with_reducible refine AncOr.go ?_)
    · refine ⟨?_, _, rfl⟩
      obtain ⟨q, hq⟩ : ∃ q, y[i]? = some q := ⟨_, List.getElem?_eq_getElem (by omega)⟩
      rw [heq, hx0, drop_cons hq]; rfl
    · refine ⟨?_, _, rfl⟩
      have : y.drop i = [] := List.drop_eq_nil_of_le (by omega)
      rw [heq, hx0, this]; rfl
theorem c58 (H : Heap) (x y : List Pair) (hx : x.length ≤ 9223372036854775807) (hy : y.length ≤ 9223372036854775807) : CallOK Try.prog 58 [.p (.lst (x.map pairRow)), .p (.lst (y.map pairRow)), .fn (.func 59) [] []] H (fun r H' => r = i64 (cmpL x y) ∧ H' = H) :=
  (CallOK.trim (Q := fun r => r = i64 (cmpL x y)) ((CallOK.of_spec (q58 x y hx hy H)).mono (fun _ _ hr => ⟨hr.2, by rw [hr.1]; rfl, hr.1⟩))).mono (fun _ _ hr => ⟨hr.2.2, hr.1⟩)
theorem c51 (H : Heap) (x y : List Pair) (hx : x.length ≤ 9223372036854775807) (hy : y.length ≤ 9223372036854775807) : CallOK Try.prog 51 [.p (.lst (x.map pairRow)), .p (.lst (y.map pairRow))] H (fun r H' => r = i64 (cmpL x y) ∧ H' = H) := by
  refine CallOK.of_spec ?_
  refine Ab.Spec.walk hm Try.func51 (by kernel_rfl) 60 ?_
  repeat' (first
    | ((with_reducible apply Onw.mk); conv => whnf)
    | (with_reducible first | apply Br.tt | apply Br.ff | apply Br.no)
    | ((with_reducible apply Br.t); · assumption)
    | ((with_reducible apply Br.f); · assumption)
    | ((with_reducible apply Br.dt); · exact ab_known)
    | ((with_reducible apply Br.df); · exact ab_known)
    | (with_reducible first | refine Br.dec (fun hc => ?_) (fun hc => ?_) | refine Br.mk (fun hc => ?_) (fun hc => ?_))
    | (refine CallOK.go (c58 _ x y hx hy) (fun r2 H2 hr2 => ?_); obtain ⟨rfl, he2⟩ := hr2; rw [he2]; clear he2 H2)
    | ((with_reducible first | apply NeedRows.mk | apply NeedMap.mk | apply NeedIter.mk); · exact ab_look)
    | ((with_reducible apply NeedLen.mk); · first | assumption | rfl)
    | ((with_reducible apply NeedRow.mk); · exact ab_lookR)
    | ((with_reducible apply DrawG.mk (List.replicate 60 false)); · decide +kernel)
    | (with_reducible first | refine NewP.mk (fun id hid => ?_) | refine NilP.mk (fun e he => ?_))
    | (with_reducible first | exact trivial | exact And.intro rfl rfl)
    | ((with_reducible apply PreP.mk); · exact ab_asked)
    | refine Exists.intro _ (PreP.mk (bytesOf_lst _) ?_)
    | refine PreP.mk (lenD_lst _) ?_
    | (with_reducible first | refine PreP.mk ?_ ?_ | refine BothP.mk ?_ ?_)
    | ((with_reducible apply AncOr.anc); · decide +kernel)
    | with_reducible refine AncOr.go ?_)
end Go.Proofs.Ytjlhkbikconboaa
