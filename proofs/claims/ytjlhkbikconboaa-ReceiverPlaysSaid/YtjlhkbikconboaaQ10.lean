/- What functions of the receiver, of labels, rows, batches, and of the laws over them, do. Conditions: those that each theorem names. -/
import Derived.Test.YtjlhkbikconboaaQ9
set_option linter.unusedVariables false
set_option linter.unusedSimpArgs false
namespace Go.Proofs.Ytjlhkbikconboaa
open Go.Ab
set_option maxRecDepth 100000
set_option maxHeartbeats 1000000
attribute [local irreducible] Run CallOK DetCall Br PreP BothP AncOr Onw NeedRows NeedMap NeedRow NeedLen NilP NeedIter RoundP EntryP EqP OptP NewP NewSlice NewMade AppTo DrawG anc drawB
theorem plain78 : aggPlain Try.prog 78 = true := by kernel_rfl
theorem q48 (x y : List Pair) (hx : x.length ≤ 9223372036854775807) (H : Heap) : Ab.Spec Try.prog 48 [.p (.lst (x.map pairRow)), .p (.lst (y.map pairRow))] H (fun r H' => H' = H ∧ r = boolD (decide (x = y))) := by
  have hpl := plain78
  have hlx : ((x.map pairRow).length : Int) = x.length := by simp
  have hly : ((y.map pairRow).length : Int) = y.length := by simp
  refine Ab.Spec.walk hm Try.func48 (by kernel_rfl) 60 ?_
  by_cases hxy : x.length = y.length
  · have hc0 : ((x.map pairRow).length : Int) = ((y.map pairRow).length : Int) := by rw [hlx, hly, hxy]
    repeat' (first
      | ((with_reducible apply Onw.mk); conv => whnf)
      | (with_reducible first | apply Br.tt | apply Br.ff | apply Br.no)
      | ((with_reducible apply Br.t); · assumption)
      | ((with_reducible apply Br.f); · assumption)
      | ((with_reducible apply Br.dt); · exact ab_known)
      | ((with_reducible apply Br.df); · exact ab_known)
      | (with_reducible first | refine Br.dec (fun hc => ?_) (fun hc => ?_) | refine Br.mk (fun hc => ?_) (fun hc => ?_))
      | ((with_reducible first | apply NeedRows.mk | apply NeedMap.mk | apply NeedIter.mk); · exact ab_look)
      | ((with_reducible apply NeedLen.mk); · first | assumption | rfl)
      | ((with_reducible apply NeedRow.mk); · exact ab_lookR)
      | ((with_reducible apply DrawG.mk (List.replicate 60 false)); · decide +kernel)
      | (with_reducible first | refine NewP.mk (fun id hid => ?_) | refine NilP.mk (fun e he => ?_))
      | (with_reducible first | exact trivial | exact And.intro rfl rfl)
      | ((with_reducible apply PreP.mk); · exact ab_asked)
      | refine Exists.intro _ (PreP.mk (bytesOf_lst _) ?_)
      | refine PreP.mk (lenD_lst _) ?_
      | (with_reducible first | refine PreP.mk ?_ ?_ | refine BothP.mk ?_ ?_)
      | ((with_reducible apply AncOr.anc); · decide +kernel)
      | with_reducible refine AncOr.go ?_)
    refine Run.keep [(0, .p (.lst (x.map pairRow))), (1, .p (.lst (y.map pairRow))), (12, i64 (x.map pairRow).length), (13, i64 (0 : Nat))] ⟨rfl, rfl, rfl, rfl, trivial⟩ ?_
    refine Run.loop (fun (i : Nat) => [(0, .p (.lst (x.map pairRow))), (1, .p (.lst (y.map pairRow))), (12, i64 (x.map pairRow).length), (13, i64 (i : Nat))]) (fun _ => H) (fun i => i ≤ x.length ∧ x.take i = y.take i) (fun i => x.length - i) ?_ 0 ⟨Nat.zero_le _, by simp⟩
    rintro i ⟨hix, heq⟩ ih
    refine Run.walk hm Try.func48 100 ?_
    rcases Nat.lt_or_ge i x.length with hi | hi
    · have hc1 : (i : Int) < ((x.map pairRow).length : Int) := by rw [hlx]; omega
      obtain ⟨p, hp⟩ : ∃ p, x[i]? = some p := ⟨_, List.getElem?_eq_getElem hi⟩
      have hri : Ab.rowAt (x.map pairRow) (i : Int).toNat = pairRow p := rowAt_map hp
      have hrp : (0 : Int) ≤ (i : Int) ∧ (i : Int) < ((x.map pairRow).length : Int) ∧ (Ab.rowAt (x.map pairRow) (i : Int).toNat).length = 2 := ⟨by omega, hc1, by rw [hri]; rfl⟩
      obtain ⟨q, hq⟩ : ∃ q, y[i]? = some q := ⟨_, List.getElem?_eq_getElem (by omega)⟩
      have hrj : Ab.rowAt (y.map pairRow) (i : Int).toNat = pairRow q := rowAt_map hq
      have hrq : (0 : Int) ≤ (i : Int) ∧ (i : Int) < ((y.map pairRow).length : Int) ∧ (Ab.rowAt (y.map pairRow) (i : Int).toNat).length = 2 := ⟨by omega, by rw [hly]; omega, by rw [hrj]; rfl⟩
      repeat' (first
        | ((with_reducible apply Onw.mk); conv => whnf)
        | (with_reducible first | apply Br.tt | apply Br.ff | apply Br.no)
        | ((with_reducible apply Br.t); · assumption)
        | ((with_reducible apply Br.f); · assumption)
        | ((with_reducible apply Br.dt); · exact ab_known)
        | ((with_reducible apply Br.df); · exact ab_known)
        | (with_reducible first | refine Br.dec (fun hc => ?_) (fun hc => ?_) | refine Br.mk (fun hc => ?_) (fun hc => ?_))
        | (refine PreP.mk hrp ?_)
        | (refine EqP.mk hri ?_)
        | (refine PreP.mk hrq ?_)
        | (refine EqP.mk hrj ?_)
        | (refine PreP.mk hpl ?_)
        | ((with_reducible first | apply NeedRows.mk | apply NeedMap.mk | apply NeedIter.mk); · exact ab_look)
        | ((with_reducible apply NeedLen.mk); · first | assumption | rfl)
        | ((with_reducible apply NeedRow.mk); · exact ab_lookR)
        | ((with_reducible apply DrawG.mk (List.replicate 60 false)); · decide +kernel)
        | (with_reducible first | refine NewP.mk (fun id hid => ?_) | refine NilP.mk (fun e he => ?_))
        | (with_reducible first | exact trivial | exact And.intro rfl rfl)
        | ((with_reducible apply PreP.mk); · exact ab_asked)
        | refine Exists.intro _ (PreP.mk (bytesOf_lst _) ?_)
        | refine PreP.mk (lenD_lst _) ?_
        | (with_reducible first | refine PreP.mk ?_ ?_ | refine BothP.mk ?_ ?_)
        | ((with_reducible apply AncOr.anc); · decide +kernel)
        | with_reducible refine AncOr.go ?_)
      · refine ⟨rfl, congrArg boolD (decide_eq_false (fun e => ?_)).symm⟩
        subst e
        rw [hp] at hq; cases hq
        simp at hc
      · refine Run.keep _ ?_ (ih (i + 1) ⟨by omega, ?_⟩ (by omega))
        · exact ⟨rfl, rfl, rfl, slot64 (by omega) (by omega) (by omega), trivial⟩
        · have e : p = q := by simp at hc; exact Prod.ext hc.1 hc.2
          rw [List.take_add_one, List.take_add_one, heq, hp, hq, e]
    · obtain rfl : i = x.length := by omega
      have hc1 : ¬ (x.length : Int) < ((x.map pairRow).length : Int) := by rw [hlx]; omega
      repeat' (first
        | ((with_reducible apply Onw.mk); conv => whnf)
        | (with_reducible first | apply Br.tt | apply Br.ff | apply Br.no)
        | ((with_reducible apply Br.t); · assumption)
        | ((with_reducible apply Br.f); · assumption)
        | ((with_reducible apply Br.dt); · exact ab_known)
        | ((with_reducible apply Br.df); · exact ab_known)
        | (with_reducible first | refine Br.dec (fun hc => ?_) (fun hc => ?_) | refine Br.mk (fun hc => ?_) (fun hc => ?_))
        | ((with_reducible first | apply NeedRows.mk | apply NeedMap.mk | apply NeedIter.mk); · exact ab_look)
        | ((with_reducible apply NeedLen.mk); · first | assumption | rfl)
        | ((with_reducible apply NeedRow.mk); · exact ab_lookR)
        | ((with_reducible apply DrawG.mk (List.replicate 60 false)); · decide +kernel)
        | (with_reducible first | refine NewP.mk (fun id hid => ?_) | refine NilP.mk (fun e he => ?_))
        | (with_reducible first | exact trivial | exact And.intro rfl rfl)
        | ((with_reducible apply PreP.mk); · exact ab_asked)
        | refine Exists.intro _ (PreP.mk (bytesOf_lst _) ?_)
        | refine PreP.mk (lenD_lst _) ?_
        | (with_reducible first | refine PreP.mk ?_ ?_ | refine BothP.mk ?_ ?_)
        | ((with_reducible apply AncOr.anc); · decide +kernel)
        | with_reducible refine AncOr.go ?_)
      refine ⟨rfl, congrArg boolD ?_⟩
      rw [List.take_length, hxy, List.take_length] at heq
      exact (decide_eq_true heq).symm
  · have hc0 : ¬ ((x.map pairRow).length : Int) = ((y.map pairRow).length : Int) := by rw [hlx, hly]; omega
    repeat' (first
      | ((with_reducible apply Onw.mk); conv => whnf)
      | (with_reducible first | apply Br.tt | apply Br.ff | apply Br.no)
      | ((with_reducible apply Br.t); · assumption)
      | ((with_reducible apply Br.f); · assumption)
      | ((with_reducible apply Br.dt); · exact ab_known)
      | ((with_reducible apply Br.df); · exact ab_known)
      | (with_reducible first | refine Br.dec (fun hc => ?_) (fun hc => ?_) | refine Br.mk (fun hc => ?_) (fun hc => ?_))
      | ((with_reducible first | apply NeedRows.mk | apply NeedMap.mk | apply NeedIter.mk); · exact ab_look)
      | ((with_reducible apply NeedLen.mk); · first | assumption | rfl)
      | ((with_reducible apply NeedRow.mk); · exact ab_lookR)
      | ((with_reducible apply DrawG.mk (List.replicate 60 false)); · decide +kernel)
      | (with_reducible first | refine NewP.mk (fun id hid => ?_) | refine NilP.mk (fun e he => ?_))
      | (with_reducible first | exact trivial | exact And.intro rfl rfl)
      | ((with_reducible apply PreP.mk); · exact ab_asked)
      | refine Exists.intro _ (PreP.mk (bytesOf_lst _) ?_)
      | refine PreP.mk (lenD_lst _) ?_
      | (with_reducible first | refine PreP.mk ?_ ?_ | refine BothP.mk ?_ ?_)
      | ((with_reducible apply AncOr.anc); · decide +kernel)
      | with_reducible refine AncOr.go ?_)
    refine ⟨rfl, congrArg boolD ?_⟩
    exact (decide_eq_false (fun e => hxy (by rw [e]))).symm
theorem c48 (H : Heap) (x y : List Pair) (hx : x.length ≤ 9223372036854775807) : CallOK Try.prog 48 [.p (.lst (x.map pairRow)), .p (.lst (y.map pairRow))] H (fun r H' => r = boolD (decide (x = y)) ∧ H' = H) := (CallOK.of_spec (q48 x y hx H)).mono fun _ _ h => ⟨h.2, h.1⟩
def eqR (a b : Rw) : Bool := ((a.ovf == b.ovf) && decide (a.n = b.n)) && decide (a.ls = b.ls)
theorem eqR_iff (a b : Rw) : eqR a b = true ↔ a = b := by
  unfold eqR
  cases a; cases b
  simp only [Bool.and_eq_true, beq_iff_eq, decide_eq_true_eq, Rw.mk.injEq]
  constructor
  · rintro ⟨⟨h1, h2⟩, h3⟩; exact ⟨h3, h1, h2⟩
  · rintro ⟨h3, h1, h2⟩; exact ⟨⟨h1, h2⟩, h3⟩
theorem q47 (a b : Rw) (ha : Fits a.ls) (H : Heap) : Ab.Spec Try.prog 47 [.p (rowP a), .p (rowP b)] H (fun r H' => r = boolD (eqR a b) ∧ ∃ z, H' = H ++ z) := by
  have hpl := plain66
  refine Ab.Spec.walk hm Try.func47 (by kernel_rfl) 60 ?_
  repeat' (first
    | ((with_reducible apply Onw.mk); conv => whnf)
    | (with_reducible first | apply Br.tt | apply Br.ff | apply Br.no)
    | ((with_reducible apply Br.t); · assumption)
    | ((with_reducible apply Br.f); · assumption)
    | ((with_reducible apply Br.dt); · exact ab_known)
    | ((with_reducible apply Br.df); · exact ab_known)
    | (with_reducible first | refine Br.dec (fun hc => ?_) (fun hc => ?_) | refine Br.mk (fun hc => ?_) (fun hc => ?_))
    | (refine CallOK.go (c48 _ a.ls b.ls ha.1) (fun r2 H2 hr2 => ?_); obtain ⟨rfl, he2⟩ := hr2; rw [he2]; clear he2 H2)
    | (refine DetCall.go (c48 _ a.ls b.ls ha.1) ?_)
    | (refine PreP.mk hpl ?_)
    | ((with_reducible first | apply NeedRows.mk | apply NeedMap.mk | apply NeedIter.mk); · exact ab_look)
    | ((with_reducible apply NeedLen.mk); · first | assumption | rfl)
    | ((with_reducible apply NeedRow.mk); · exact ab_lookR)
    | ((with_reducible apply DrawG.mk (List.replicate 60 false)); · decide +kernel)
    | (with_reducible first | refine NewP.mk (fun id hid => ?_) | refine NilP.mk (fun e he => ?_))
    | (with_reducible first | exact trivial | exact And.intro rfl rfl)
    | ((with_reducible apply PreP.mk); · exact ab_asked)
    | refine Exists.intro _ (PreP.mk (bytesOf_lst _) ?_)
    | refine PreP.mk (lenD_lst _) ?_
    | (with_reducible first | refine PreP.mk ?_ ?_ | refine BothP.mk ?_ ?_)
    | ((with_reducible apply AncOr.anc); · decide +kernel)
    | with_reducible refine AncOr.go ?_)
  · refine ⟨congrArg boolD ?_, _, List.append_assoc _ _ _⟩
    unfold eqR; simp at hc; rw [hc.1, hc.2]; simp
  · refine ⟨congrArg boolD ?_, _, List.append_assoc _ _ _⟩
    unfold eqR
    by_cases h1 : a.ovf = b.ovf <;> by_cases h2 : a.n = b.n <;> simp_all
theorem c47 (H : Heap) (a b : Rw) (ha : Fits a.ls) : CallOK Try.prog 47 [.p (rowP a), .p (rowP b)] H (fun r H' => r = boolD (eqR a b) ∧ H' = H) :=
  (CallOK.trim (Q := fun r => r = boolD (eqR a b)) ((CallOK.of_spec (q47 a b ha H)).mono (fun _ _ hr => ⟨hr.2, by rw [hr.1]; rfl, hr.1⟩))).mono (fun _ _ hr => ⟨hr.2.2, hr.1⟩)
def eqRs : List Rw → List Rw → Bool
  | [], [] => true
  | a :: l, b :: m => eqR a b && eqRs l m
  | _, _ => false
theorem eqRs_iff : ∀ (l m : List Rw), eqRs l m = true ↔ l = m
  | [], [] => by simp [eqRs]
  | [], _ :: _ => by simp [eqRs]
  | _ :: _, [] => by simp [eqRs]
  | a :: l, b :: m => by simp [eqRs, eqR_iff, eqRs_iff l m]
theorem q46 (x y : List Rw) (hx : x.length ≤ 9223372036854775807) (hf : ∀ r ∈ x, Fits r.ls) (H : Heap) : Ab.Spec Try.prog 46 [.p (.lst (x.map rowRow)), .p (.lst (y.map rowRow)), .fn (.func 47) [] []] H (fun r H' => r = boolD (eqRs x y) ∧ ∃ z, H' = H ++ z) := by
  have hlx : ((x.map rowRow).length : Int) = x.length := by simp
  have hly : ((y.map rowRow).length : Int) = y.length := by simp
  have hno : ∀ {e : Prop}, (x = y → e) → ¬ e → eqRs x y = false := fun h h2 => by
    rw [Bool.eq_false_iff]; intro e; exact h2 (h ((eqRs_iff x y).1 e))
  refine Ab.Spec.walk hm Try.func46 (by kernel_rfl) 60 ?_
  by_cases hxy : x.length = y.length
  · have hc0 : ((x.map rowRow).length : Int) = ((y.map rowRow).length : Int) := by rw [hlx, hly, hxy]
    repeat' (first
      | ((with_reducible apply Onw.mk); conv => whnf)
      | (with_reducible first | apply Br.tt | apply Br.ff | apply Br.no)
      | ((with_reducible apply Br.t); · assumption)
      | ((with_reducible apply Br.f); · assumption)
      | ((with_reducible apply Br.dt); · exact ab_known)
      | ((with_reducible apply Br.df); · exact ab_known)
      | (with_reducible first | refine Br.dec (fun hc => ?_) (fun hc => ?_) | refine Br.mk (fun hc => ?_) (fun hc => ?_))
      | ((with_reducible first | apply NeedRows.mk | apply NeedMap.mk | apply NeedIter.mk); · exact ab_look)
      | ((with_reducible apply NeedLen.mk); · first | assumption | rfl)
      | ((with_reducible apply NeedRow.mk); · exact ab_lookR)
      | ((with_reducible apply DrawG.mk (List.replicate 60 false)); · decide +kernel)
      | (with_reducible first | refine NewP.mk (fun id hid => ?_) | refine NilP.mk (fun e he => ?_))
      | (with_reducible first | exact trivial | exact And.intro rfl rfl)
      | ((with_reducible apply PreP.mk); · exact ab_asked)
      | refine Exists.intro _ (PreP.mk (bytesOf_lst _) ?_)
      | refine PreP.mk (lenD_lst _) ?_
      | (with_reducible first | refine PreP.mk ?_ ?_ | refine BothP.mk ?_ ?_)
      | ((with_reducible apply AncOr.anc); · decide +kernel)
      | with_reducible refine AncOr.go ?_)
    refine Run.keep [(0, .p (.lst (x.map rowRow))), (1, .p (.lst (y.map rowRow))), (2, .fn (.func 47) [] []), (15, .p (.lst (x.map rowRow))), (16, i64 (x.map rowRow).length), (17, i64 (0 : Nat))] ⟨rfl, rfl, rfl, rfl, rfl, rfl, trivial⟩ ?_
    refine Run.rounds (fun (i : Nat) T H2 => ∃ z, T = [(0, .p (.lst (x.map rowRow))), (1, .p (.lst (y.map rowRow))), (2, .fn (.func 47) [] []), (15, .p (.lst (x.map rowRow))), (16, i64 (x.map rowRow).length), (17, i64 i)] ∧ H2 = H ++ z ∧ i ≤ x.length ∧ x.take i = y.take i) (fun i => x.length - i) ?_ (x := 0) ⟨[], rfl, by simp, Nat.zero_le _, by simp⟩
    rintro i T H2 ⟨z, rfl, rfl, hix, heq⟩ ih
    refine Run.walk hm Try.func46 100 ?_
    rcases Nat.lt_or_ge i x.length with hi | hi
    · have hc1 : (i : Int) < ((x.map rowRow).length : Int) := by rw [hlx]; omega
      obtain ⟨p, hp⟩ : ∃ p, x[i]? = some p := ⟨_, List.getElem?_eq_getElem hi⟩
      have hri : Ab.rowAt (x.map rowRow) (i : Int).toNat = rowRow p := rowAt_map hp
      have hrp : (0 : Int) ≤ (i : Int) ∧ (i : Int) < ((x.map rowRow).length : Int) ∧ (Ab.rowAt (x.map rowRow) (i : Int).toNat).length = 3 := ⟨by omega, hc1, by rw [hri]; rfl⟩
      obtain ⟨q, hq⟩ : ∃ q, y[i]? = some q := ⟨_, List.getElem?_eq_getElem (by omega)⟩
      have hrj : Ab.rowAt (y.map rowRow) (i : Int).toNat = rowRow q := rowAt_map hq
      have hrq : (0 : Int) ≤ (i : Int) ∧ (i : Int) < ((y.map rowRow).length : Int) ∧ (Ab.rowAt (y.map rowRow) (i : Int).toNat).length = 3 := ⟨by omega, by rw [hly]; omega, by rw [hrj]; rfl⟩
      have hfp := hf p (List.mem_of_getElem? hp)
      repeat' (first
        | ((with_reducible apply Onw.mk); conv => whnf)
        | (with_reducible first | apply Br.tt | apply Br.ff | apply Br.no)
        | ((with_reducible apply Br.t); · assumption)
        | ((with_reducible apply Br.f); · assumption)
        | ((with_reducible apply Br.dt); · exact ab_known)
        | ((with_reducible apply Br.df); · exact ab_known)
        | (with_reducible first | refine Br.dec (fun hc => ?_) (fun hc => ?_) | refine Br.mk (fun hc => ?_) (fun hc => ?_))
        | (refine PreP.mk hrp ?_)
        | (refine EqP.mk hri ?_)
        | (refine PreP.mk hrq ?_)
        | (refine EqP.mk hrj ?_)
        | (refine CallOK.go (c47 _ p q hfp) (fun r2 H2 hr2 => ?_); obtain ⟨rfl, he2⟩ := hr2; rw [he2]; clear he2 H2)
        | ((with_reducible first | apply NeedRows.mk | apply NeedMap.mk | apply NeedIter.mk); · exact ab_look)
        | ((with_reducible apply NeedLen.mk); · first | assumption | rfl)
        | ((with_reducible apply NeedRow.mk); · exact ab_lookR)
        | ((with_reducible apply DrawG.mk (List.replicate 60 false)); · decide +kernel)
        | (with_reducible first | refine NewP.mk (fun id hid => ?_) | refine NilP.mk (fun e he => ?_))
        | (with_reducible first | exact trivial | exact And.intro rfl rfl)
        | ((with_reducible apply PreP.mk); · exact ab_asked)
        | refine Exists.intro _ (PreP.mk (bytesOf_lst _) ?_)
        | refine PreP.mk (lenD_lst _) ?_
        | (with_reducible first | refine PreP.mk ?_ ?_ | refine BothP.mk ?_ ?_)
        | ((with_reducible apply AncOr.anc); · decide +kernel)
        | with_reducible refine AncOr.go ?_)
      all_goals rename_i id0 hid0
      all_goals rw [setN_last hid0] at hid ⊢
      all_goals rw [setN_last hid]
      · refine Run.keep _ ?_ (ih (i + 1) _ _ (by omega) ⟨_, rfl, (List.append_assoc _ _ _).trans ((List.append_assoc _ _ _).trans rfl), by omega, ?_⟩)
        · exact ⟨rfl, rfl, rfl, rfl, rfl, slot64 (by omega) (by omega) (by omega), trivial⟩
        · rw [List.take_add_one, List.take_add_one, heq, hp, hq, (eqR_iff p q).1 hc]
      · refine ⟨congrArg boolD ?_, _, (List.append_assoc _ _ _).trans ((List.append_assoc _ _ _).trans rfl)⟩
        refine (hno (e := p = q) (fun e => ?_) (fun e => ?_)).symm
        · subst e; rw [hp] at hq; cases hq; rfl
        · rw [(eqR_iff p q).2 e] at hc; cases hc
    · obtain rfl : i = x.length := by omega
      have hc1 : ¬ (x.length : Int) < ((x.map rowRow).length : Int) := by rw [hlx]; omega
      repeat' (first
        | ((with_reducible apply Onw.mk); conv => whnf)
        | (with_reducible first | apply Br.tt | apply Br.ff | apply Br.no)
        | ((with_reducible apply Br.t); · assumption)
        | ((with_reducible apply Br.f); · assumption)
        | ((with_reducible apply Br.dt); · exact ab_known)
        | ((with_reducible apply Br.df); · exact ab_known)
        | (with_reducible first | refine Br.dec (fun hc => ?_) (fun hc => ?_) | refine Br.mk (fun hc => ?_) (fun hc => ?_))
        | ((with_reducible first | apply NeedRows.mk | apply NeedMap.mk | apply NeedIter.mk); · exact ab_look)
        | ((with_reducible apply NeedLen.mk); · first | assumption | rfl)
        | ((with_reducible apply NeedRow.mk); · exact ab_lookR)
        | ((with_reducible apply DrawG.mk (List.replicate 60 false)); · decide +kernel)
        | (with_reducible first | refine NewP.mk (fun id hid => ?_) | refine NilP.mk (fun e he => ?_))
        | (with_reducible first | exact trivial | exact And.intro rfl rfl)
        | ((with_reducible apply PreP.mk); · exact ab_asked)
        | refine Exists.intro _ (PreP.mk (bytesOf_lst _) ?_)
        | refine PreP.mk (lenD_lst _) ?_
        | (with_reducible first | refine PreP.mk ?_ ?_ | refine BothP.mk ?_ ?_)
        | ((with_reducible apply AncOr.anc); · decide +kernel)
        | with_reducible refine AncOr.go ?_)
      refine ⟨congrArg boolD ?_, _, rfl⟩
      rw [List.take_length, hxy, List.take_length] at heq
      exact ((eqRs_iff x y).2 heq).symm
  · have hc0 : ¬ ((x.map rowRow).length : Int) = ((y.map rowRow).length : Int) := by rw [hlx, hly]; omega
    repeat' (first
      | ((with_reducible apply Onw.mk); conv => whnf)
      | (with_reducible first | apply Br.tt | apply Br.ff | apply Br.no)
      | ((with_reducible apply Br.t); · assumption)
      | ((with_reducible apply Br.f); · assumption)
      | ((with_reducible apply Br.dt); · exact ab_known)
      | ((with_reducible apply Br.df); · exact ab_known)
      | (with_reducible first | refine Br.dec (fun hc => ?_) (fun hc => ?_) | refine Br.mk (fun hc => ?_) (fun hc => ?_))
      | ((with_reducible first | apply NeedRows.mk | apply NeedMap.mk | apply NeedIter.mk); · exact ab_look)
      | ((with_reducible apply NeedLen.mk); · first | assumption | rfl)
      | ((with_reducible apply NeedRow.mk); · exact ab_lookR)
      | ((with_reducible apply DrawG.mk (List.replicate 60 false)); · decide +kernel)
      | (with_reducible first | refine NewP.mk (fun id hid => ?_) | refine NilP.mk (fun e he => ?_))
      | (with_reducible first | exact trivial | exact And.intro rfl rfl)
      | ((with_reducible apply PreP.mk); · exact ab_asked)
      | refine Exists.intro _ (PreP.mk (bytesOf_lst _) ?_)
      | refine PreP.mk (lenD_lst _) ?_
      | (with_reducible first | refine PreP.mk ?_ ?_ | refine BothP.mk ?_ ?_)
      | ((with_reducible apply AncOr.anc); · decide +kernel)
      | with_reducible refine AncOr.go ?_)
    refine ⟨congrArg boolD ?_, [], by simp⟩
    exact (hno (e := x.length = y.length) (fun e => by rw [e]) hxy).symm
theorem c46 (H : Heap) (x y : List Rw) (hx : x.length ≤ 9223372036854775807) (hf : ∀ r ∈ x, Fits r.ls) : CallOK Try.prog 46 [.p (.lst (x.map rowRow)), .p (.lst (y.map rowRow)), .fn (.func 47) [] []] H (fun r H' => r = boolD (eqRs x y) ∧ H' = H) :=
  (CallOK.trim (Q := fun r => r = boolD (eqRs x y)) ((CallOK.of_spec (q46 x y hx hf H)).mono (fun _ _ hr => ⟨hr.2, by rw [hr.1]; rfl, hr.1⟩))).mono (fun _ _ hr => ⟨hr.2.2, hr.1⟩)
theorem c32 (H : Heap) (x y : List Rw) (hx : x.length ≤ 9223372036854775807) (hf : ∀ r ∈ x, Fits r.ls) : CallOK Try.prog 32 [.p (.lst (x.map rowRow)), .p (.lst (y.map rowRow))] H (fun r H' => r = boolD (eqRs x y) ∧ H' = H) := by
  refine CallOK.of_spec ?_
  refine Ab.Spec.walk hm Try.func32 (by kernel_rfl) 60 ?_
  repeat' (first
    | ((with_reducible apply Onw.mk); conv => whnf)
    | (with_reducible first | apply Br.tt | apply Br.ff | apply Br.no)
    | ((with_reducible apply Br.t); · assumption)
    | ((with_reducible apply Br.f); · assumption)
    | ((with_reducible apply Br.dt); · exact ab_known)
    | ((with_reducible apply Br.df); · exact ab_known)
    | (with_reducible first | refine Br.dec (fun hc => ?_) (fun hc => ?_) | refine Br.mk (fun hc => ?_) (fun hc => ?_))
    | (refine CallOK.go (c46 _ x y hx hf) (fun r2 H2 hr2 => ?_); obtain ⟨rfl, he2⟩ := hr2; rw [he2]; clear he2 H2)
    | ((with_reducible first | apply NeedRows.mk | apply NeedMap.mk | apply NeedIter.mk); · exact ab_look)
    | ((with_reducible apply NeedLen.mk); · first | assumption | rfl)
    | ((with_reducible apply NeedRow.mk); · exact ab_lookR)
    | ((with_reducible apply DrawG.mk (List.replicate 60 false)); · decide +kernel)
    | (with_reducible first | refine NewP.mk (fun id hid => ?_) | refine NilP.mk (fun e he => ?_))
    | (with_reducible first | exact trivial | exact And.intro rfl rfl)
    | ((with_reducible apply PreP.mk); · exact ab_asked)
    | refine Exists.intro _ (PreP.mk (bytesOf_lst _) ?_)
    | refine PreP.mk (lenD_lst _) ?_
    | (with_reducible first | refine PreP.mk ?_ ?_ | refine BothP.mk ?_ ?_)
    | ((with_reducible apply AncOr.anc); · decide +kernel)
    | with_reducible refine AncOr.go ?_)
def dupL : List Rw → Bool
  | a :: b :: t => decide (cmpR a b = 0) || dupL (b :: t)
  | _ => false
theorem c34 (H : Heap) (l : List Rw) (hn : l.length ≤ 12) (hf : ∀ r ∈ l, Fits r.ls) : CallOK Try.prog 34 [.p (.lst (l.map rowRow))] H (fun r H' => r = boolD (dupL (isort l)) ∧ H' = H) := by
  refine CallOK.of_spec ?_
  refine Ab.Spec.walk hm Try.func34 (by kernel_rfl) 60 ?_
  repeat' (first
    | ((with_reducible apply Onw.mk); conv => whnf)
    | (with_reducible first | apply Br.tt | apply Br.ff | apply Br.no)
    | ((with_reducible apply Br.t); · assumption)
    | ((with_reducible apply Br.f); · assumption)
    | ((with_reducible apply Br.dt); · exact ab_known)
    | ((with_reducible apply Br.df); · exact ab_known)
    | (with_reducible first | refine Br.dec (fun hc => ?_) (fun hc => ?_) | refine Br.mk (fun hc => ?_) (fun hc => ?_))
    | (refine CallOK.go (c33 _ l hn hf) (fun r2 H2 hr2 => ?_); obtain ⟨rfl, he2⟩ := hr2; rw [he2]; clear he2 H2)
    | ((with_reducible first | apply NeedRows.mk | apply NeedMap.mk | apply NeedIter.mk); · exact ab_look)
    | ((with_reducible apply NeedLen.mk); · first | assumption | rfl)
    | ((with_reducible apply NeedRow.mk); · exact ab_lookR)
    | ((with_reducible apply DrawG.mk (List.replicate 60 false)); · decide +kernel)
    | (with_reducible first | refine NewP.mk (fun id hid => ?_) | refine NilP.mk (fun e he => ?_))
    | (with_reducible first | exact trivial | exact And.intro rfl rfl)
    | ((with_reducible apply PreP.mk); · exact ab_asked)
    | refine Exists.intro _ (PreP.mk (bytesOf_lst _) ?_)
    | refine PreP.mk (lenD_lst _) ?_
    | (with_reducible first | refine PreP.mk ?_ ?_ | refine BothP.mk ?_ ?_)
    | ((with_reducible apply AncOr.anc); · decide +kernel)
    | with_reducible refine AncOr.go ?_)
  obtain ⟨hsl, _, hsm⟩ := isort_spec l
  generalize isort l = s at hsl hsm
  have hll : ((s.map rowRow).length : Int) = s.length := by simp
  refine Run.keep [(3, .p (.lst (s.map rowRow))), (4, i64 (1 : Nat))] ⟨rfl, rfl, trivial⟩ ?_
  refine Run.loop (fun (i : Nat) => [(3, .p (.lst (s.map rowRow))), (4, i64 (i : Nat))]) (fun _ => H) (fun i => 1 ≤ i ∧ dupL s = dupL (s.drop (i - 1))) (fun i => s.length - i) ?_ 1 ⟨Nat.le_refl _, rfl⟩
  rintro i ⟨hi1, heq⟩ ih
  refine Run.walk hm Try.func34 100 ?_
  rcases Nat.lt_or_ge i s.length with hi | hi
  · have hc1 : (i : Int) < ((s.map rowRow).length : Int) := by rw [hll]; omega
    have wi : IntKind.i64.wrap ((i : Int) - 1) = ((i - 1 : Nat) : Int) := by rw [wrap64 (by omega) (by omega)]; omega
    obtain ⟨b, hb⟩ : ∃ b, s[i]? = some b := ⟨_, List.getElem?_eq_getElem hi⟩
    obtain ⟨a, ha⟩ : ∃ a, s[i - 1]? = some a := ⟨_, List.getElem?_eq_getElem (by omega)⟩
    have hri : Ab.rowAt (s.map rowRow) (i : Int).toNat = rowRow b := rowAt_map hb
    have hrp : (0 : Int) ≤ (i : Int) ∧ (i : Int) < ((s.map rowRow).length : Int) ∧ (Ab.rowAt (s.map rowRow) (i : Int).toNat).length = 3 := ⟨by omega, hc1, by rw [hri]; rfl⟩
    have hrj : Ab.rowAt (s.map rowRow) (IntKind.i64.wrap ((i : Int) - 1)).toNat = rowRow a := by rw [wi]; exact rowAt_map ha
    have hrq : (0 : Int) ≤ IntKind.i64.wrap ((i : Int) - 1) ∧ IntKind.i64.wrap ((i : Int) - 1) < ((s.map rowRow).length : Int) ∧ (Ab.rowAt (s.map rowRow) (IntKind.i64.wrap ((i : Int) - 1)).toNat).length = 3 := ⟨by rw [wi]; omega, by rw [wi]; omega, by rw [hrj]; rfl⟩
    have hfa := hf a (hsm a (List.mem_of_getElem? ha))
    have hfb := hf b (hsm b (List.mem_of_getElem? hb))
    have e1 : i - 1 + 1 = i := by omega
    rw [drop_cons ha, e1, drop_cons hb] at heq
    repeat' (first
      | ((with_reducible apply Onw.mk); conv => whnf)
      | (with_reducible first | apply Br.tt | apply Br.ff | apply Br.no)
      | ((with_reducible apply Br.t); · assumption)
      | ((with_reducible apply Br.f); · assumption)
      | ((with_reducible apply Br.dt); · exact ab_known)
      | ((with_reducible apply Br.df); · exact ab_known)
      | (with_reducible first | refine Br.dec (fun hc => ?_) (fun hc => ?_) | refine Br.mk (fun hc => ?_) (fun hc => ?_))
      | (refine PreP.mk hrp ?_)
      | (refine EqP.mk hri ?_)
      | (refine PreP.mk hrq ?_)
      | (refine EqP.mk hrj ?_)
      | (refine CallOK.go (c51 _ a.ls b.ls hfa.1 hfb.1) (fun r2 H2 hr2 => ?_); obtain ⟨rfl, he2⟩ := hr2; rw [he2]; clear he2 H2)
      | (refine DetCall.go (c51 _ a.ls b.ls hfa.1 hfb.1) ?_)
      | ((with_reducible first | apply NeedRows.mk | apply NeedMap.mk | apply NeedIter.mk); · exact ab_look)
      | ((with_reducible apply NeedLen.mk); · first | assumption | rfl)
      | ((with_reducible apply NeedRow.mk); · exact ab_lookR)
      | ((with_reducible apply DrawG.mk (List.replicate 60 false)); · decide +kernel)
      | (with_reducible first | refine NewP.mk (fun id hid => ?_) | refine NilP.mk (fun e he => ?_))
      | (with_reducible first | exact trivial | exact And.intro rfl rfl)
      | ((with_reducible apply PreP.mk); · exact ab_asked)
      | refine Exists.intro _ (PreP.mk (bytesOf_lst _) ?_)
      | refine PreP.mk (lenD_lst _) ?_
      | (with_reducible first | refine PreP.mk ?_ ?_ | refine BothP.mk ?_ ?_)
      | ((with_reducible apply AncOr.anc); · decide +kernel)
      | with_reducible refine AncOr.go ?_)
    · refine ⟨congrArg boolD ?_, rfl⟩
      have e : cmpR a b = 0 := hc
      rw [heq]; simp [dupL, e]
    · refine Run.keep _ ?_ (ih (i + 1) ⟨by omega, ?_⟩ (by omega))
      · exact ⟨rfl, slot64 (by omega) (by omega) (by omega), trivial⟩
      · have e : ¬ cmpR a b = 0 := hc
        rw [heq]; simp only [dupL, decide_eq_false e, Bool.false_or, Nat.add_sub_cancel]
        rw [drop_cons hb]
  · have hc1 : ¬ (i : Int) < ((s.map rowRow).length : Int) := by rw [hll]; omega
    repeat' (first
      | ((with_reducible apply Onw.mk); conv => whnf)
      | (with_reducible first | apply Br.tt | apply Br.ff | apply Br.no)
      | ((with_reducible apply Br.t); · assumption)
      | ((with_reducible apply Br.f); · assumption)
      | ((with_reducible apply Br.dt); · exact ab_known)
      | ((with_reducible apply Br.df); · exact ab_known)
      | (with_reducible first | refine Br.dec (fun hc => ?_) (fun hc => ?_) | refine Br.mk (fun hc => ?_) (fun hc => ?_))
      | ((with_reducible first | apply NeedRows.mk | apply NeedMap.mk | apply NeedIter.mk); · exact ab_look)
      | ((with_reducible apply NeedLen.mk); · first | assumption | rfl)
      | ((with_reducible apply NeedRow.mk); · exact ab_lookR)
      | ((with_reducible apply DrawG.mk (List.replicate 60 false)); · decide +kernel)
      | (with_reducible first | refine NewP.mk (fun id hid => ?_) | refine NilP.mk (fun e he => ?_))
      | (with_reducible first | exact trivial | exact And.intro rfl rfl)
      | ((with_reducible apply PreP.mk); · exact ab_asked)
      | refine Exists.intro _ (PreP.mk (bytesOf_lst _) ?_)
      | refine PreP.mk (lenD_lst _) ?_
      | (with_reducible first | refine PreP.mk ?_ ?_ | refine BothP.mk ?_ ?_)
      | ((with_reducible apply AncOr.anc); · decide +kernel)
      | with_reducible refine AncOr.go ?_)
    refine ⟨congrArg boolD ?_, rfl⟩
    rw [heq]
    rcases Nat.eq_zero_or_pos s.length with h0 | h0
    · rw [List.length_eq_zero_iff.1 h0]; simp [dupL]
    · have h1 : s.drop i = [] := List.drop_eq_nil_of_le hi
      rcases Nat.lt_or_ge (i - 1) s.length with h2 | h2
      · obtain ⟨a, ha⟩ : ∃ a, s[i - 1]? = some a := ⟨_, List.getElem?_eq_getElem h2⟩
        have e1 : i - 1 + 1 = i := by omega
        rw [drop_cons ha, e1, h1]; rfl
      · rw [List.drop_eq_nil_of_le h2]; rfl
end Go.Proofs.Ytjlhkbikconboaa
