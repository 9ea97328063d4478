/- What functions of the receiver, of labels, rows, batches, and of the laws over them, do. Conditions: those that each theorem names. -/
import Derived.Test.YtjlhkbikconboaaQ2
set_option linter.unusedVariables false
set_option linter.unusedSimpArgs false
namespace Go.Proofs.Ytjlhkbikconboaa
open Go.Ab
set_option maxRecDepth 100000
set_option maxHeartbeats 1000000
attribute [local irreducible] Run CallOK DetCall Br PreP BothP AncOr Onw NeedRows NeedMap NeedRow NeedLen NilP NeedIter RoundP EntryP EqP OptP NewP NewSlice NewMade AppTo DrawG anc drawB
theorem q44 (l : List Pair) (hl : Fits l) (H : Heap) : Ab.Spec Try.prog 44 [.p (.lst (l.map pairRow))] H (fun r H' => r = boolD (labelsOK l) ∧ ∃ x, H' = H ++ x) := by
  have hll : ((l.map pairRow).length : Int) = l.length := by simp
  have hl1 := hl.1
  refine Ab.Spec.walk hm Try.func44 (by kernel_rfl) 60 ?_
  repeat' (first
    | ((with_reducible apply Onw.mk); conv => whnf)
    | (with_reducible first | apply Br.tt | apply Br.ff | apply Br.no)
    | ((with_reducible apply Br.t); · assumption)
    | ((with_reducible apply Br.f); · assumption)
    | ((with_reducible apply Br.dt); · exact ab_known)
    | ((with_reducible apply Br.df); · exact ab_known)
    | (with_reducible first | refine Br.dec (fun hc => ?_) (fun hc => ?_) | refine Br.mk (fun hc => ?_) (fun hc => ?_))
    | ((with_reducible first | apply NeedRows.mk | apply NeedMap.mk | apply NeedIter.mk); · exact ab_look)
    | ((with_reducible apply NeedLen.mk); · first | assumption | rfl)
    | ((with_reducible apply NeedRow.mk); · exact ab_lookR)
    | ((with_reducible apply DrawG.mk (List.replicate 60 false)); · decide +kernel)
    | (with_reducible first | refine NewP.mk (fun id hid => ?_) | refine NilP.mk (fun e he => ?_))
    | (with_reducible first | exact trivial | exact And.intro rfl rfl)
    | ((with_reducible apply PreP.mk); · exact ab_asked)
    | refine Exists.intro _ (PreP.mk (bytesOf_lst _) ?_)
    | refine PreP.mk (lenD_lst _) ?_
    | (with_reducible first | refine PreP.mk ?_ ?_ | refine BothP.mk ?_ ?_)
    | ((with_reducible apply AncOr.anc); · decide +kernel)
    | with_reducible refine AncOr.go ?_)
  refine Run.keep [(0, .p (.lst (l.map pairRow))), (5, .p (.lst (l.map pairRow))), (6, i64 (l.map pairRow).length), (7, i64 (0 : Nat))] ⟨rfl, rfl, rfl, rfl, trivial⟩ ?_
  refine Run.rounds (fun (i : Nat) T H2 => ∃ x, T = [(0, .p (.lst (l.map pairRow))), (5, .p (.lst (l.map pairRow))), (6, i64 (l.map pairRow).length), (7, i64 i)] ∧ H2 = H ++ x ∧ i ≤ l.length ∧ ∀ k, k < i → okAt l k = true) (fun i => l.length - i) ?_ (x := 0) ⟨[], rfl, by simp, Nat.zero_le _, fun k h => absurd h (Nat.not_lt_zero _)⟩
  rintro i T H2 ⟨x, rfl, rfl, hi⟩ ih
  refine Run.walk hm Try.func44 100 ?_
  rcases Nat.lt_or_ge i l.length with hil | hil
  · have hc1 : (i : Int) < ((l.map pairRow).length : Int) := by rw [hll]; omega
    obtain ⟨p, hp⟩ : ∃ p, l[i]? = some p := ⟨l[i], by simp [hil]⟩
    have hps := hl.2 p (List.mem_of_getElem? hp)
    have hri : Ab.rowAt (l.map pairRow) (i : Int).toNat = pairRow p := rowAt_map hp
    have hrp : (0 : Int) ≤ (i : Int) ∧ (i : Int) < ((l.map pairRow).length : Int) ∧ (Ab.rowAt (l.map pairRow) (i : Int).toNat).length = 2 := ⟨by omega, hc1, by rw [hri]; rfl⟩
    have hgp := getD_of hp
    have next : okAt l i = true → ∀ k, k < i + 1 → okAt l k = true := fun ho k hk => by
      rcases Nat.lt_or_ge k i with q | q
      · exact hi.2 k q
      · obtain rfl : k = i := by omega
        exact ho
    rcases Nat.eq_zero_or_pos i with h0 | h0
    · have hi0 : ¬ (0 : Int) < (i : Int) := by omega
      have ho : okAt l i = (nameOK p.1 && valueOK p.2) := by unfold okAt; rw [hgp, decide_eq_true h0]; simp
      repeat' (first
        | ((with_reducible apply Onw.mk); conv => whnf)
        | (with_reducible first | apply Br.tt | apply Br.ff | apply Br.no)
        | ((with_reducible apply Br.t); · assumption)
        | ((with_reducible apply Br.f); · assumption)
        | ((with_reducible apply Br.dt); · exact ab_known)
        | ((with_reducible apply Br.df); · exact ab_known)
        | (with_reducible first | refine Br.dec (fun hc => ?_) (fun hc => ?_) | refine Br.mk (fun hc => ?_) (fun hc => ?_))
        | (refine PreP.mk hrp ?_)
        | (refine EqP.mk hri ?_)
        | (refine DetCall.go (c28 _ _ hps.1) ?_)
        | (refine DetCall.go (c55 _ _ hps.2) ?_)
        | ((with_reducible first | apply NeedRows.mk | apply NeedMap.mk | apply NeedIter.mk); · exact ab_look)
        | ((with_reducible apply NeedLen.mk); · first | assumption | rfl)
        | ((with_reducible apply NeedRow.mk); · exact ab_lookR)
        | ((with_reducible apply DrawG.mk (List.replicate 60 false)); · decide +kernel)
        | (with_reducible first | refine NewP.mk (fun id hid => ?_) | refine NilP.mk (fun e he => ?_))
        | (with_reducible first | exact trivial | exact And.intro rfl rfl)
        | ((with_reducible apply PreP.mk); · exact ab_asked)
        | refine Exists.intro _ (PreP.mk (bytesOf_lst _) ?_)
        | refine PreP.mk (lenD_lst _) ?_
        | (with_reducible first | refine PreP.mk ?_ ?_ | refine BothP.mk ?_ ?_)
        | ((with_reducible apply AncOr.anc); · decide +kernel)
        | with_reducible refine AncOr.go ?_)
      all_goals first
        | (refine Run.keep _ ?_ (ih (i + 1) _ _ (by omega) ⟨_, rfl, (setN_last hid).trans (List.append_assoc _ _ _), by omega, next ?_⟩)
           · exact ⟨rfl, rfl, rfl, slot64 (by omega) (by omega) (by omega), trivial⟩
           · clear ih next hi; rw [ho]; simp_all)
        | (refine ⟨?_, _, (setN_last hid).trans (List.append_assoc _ _ _)⟩
           refine labels_false hil ?_
           clear ih next hi; rw [ho]; simp_all)
    · have hi0 : (0 : Int) < (i : Int) := by omega
      obtain ⟨q, hq⟩ : ∃ q, l[i - 1]? = some q := ⟨_, List.getElem?_eq_getElem (by omega)⟩
      have wq : IntKind.i64.wrap ((i : Int) - 1) = ((i - 1 : Nat) : Int) := by rw [wrap64 (by omega) (by omega)]; omega
      have hrj : Ab.rowAt (l.map pairRow) (IntKind.i64.wrap ((i : Int) - 1)).toNat = pairRow q := by rw [wq]; exact rowAt_map hq
      have hrq : (0 : Int) ≤ IntKind.i64.wrap ((i : Int) - 1) ∧ IntKind.i64.wrap ((i : Int) - 1) < ((l.map pairRow).length : Int) ∧ (Ab.rowAt (l.map pairRow) (IntKind.i64.wrap ((i : Int) - 1)).toNat).length = 2 := ⟨by rw [wq]; omega, by rw [wq]; omega, by rw [hrj]; rfl⟩
      have hgq := getD_of hq
      have ho : okAt l i = (nameOK p.1 && valueOK p.2 && strLt q.1 p.1) := by unfold okAt; rw [hgp, hgq, decide_eq_false (by omega)]; simp
      repeat' (first
        | ((with_reducible apply Onw.mk); conv => whnf)
        | (with_reducible first | apply Br.tt | apply Br.ff | apply Br.no)
        | ((with_reducible apply Br.t); · assumption)
        | ((with_reducible apply Br.f); · assumption)
        | ((with_reducible apply Br.dt); · exact ab_known)
        | ((with_reducible apply Br.df); · exact ab_known)
        | (with_reducible first | refine Br.dec (fun hc => ?_) (fun hc => ?_) | refine Br.mk (fun hc => ?_) (fun hc => ?_))
        | (refine PreP.mk hrp ?_)
        | (refine EqP.mk hri ?_)
        | (refine PreP.mk hrq ?_)
        | (refine EqP.mk hrj ?_)
        | (refine DetCall.go (c28 _ _ hps.1) ?_)
        | (refine DetCall.go (c55 _ _ hps.2) ?_)
        | ((with_reducible first | apply NeedRows.mk | apply NeedMap.mk | apply NeedIter.mk); · exact ab_look)
        | ((with_reducible apply NeedLen.mk); · first | assumption | rfl)
        | ((with_reducible apply NeedRow.mk); · exact ab_lookR)
        | ((with_reducible apply DrawG.mk (List.replicate 60 false)); · decide +kernel)
        | (with_reducible first | refine NewP.mk (fun id hid => ?_) | refine NilP.mk (fun e he => ?_))
        | (with_reducible first | exact trivial | exact And.intro rfl rfl)
        | ((with_reducible apply PreP.mk); · exact ab_asked)
        | refine Exists.intro _ (PreP.mk (bytesOf_lst _) ?_)
        | refine PreP.mk (lenD_lst _) ?_
        | (with_reducible first | refine PreP.mk ?_ ?_ | refine BothP.mk ?_ ?_)
        | ((with_reducible apply AncOr.anc); · decide +kernel)
        | with_reducible refine AncOr.go ?_)
      all_goals first
        | (refine Run.keep _ ?_ (ih (i + 1) _ _ (by omega) ⟨_, rfl, (setN_last hid).trans (List.append_assoc _ _ _), by omega, next ?_⟩)
           · exact ⟨rfl, rfl, rfl, slot64 (by omega) (by omega) (by omega), trivial⟩
           · clear ih next hi; rw [ho]; simp_all)
        | (refine ⟨?_, _, (setN_last hid).trans (List.append_assoc _ _ _)⟩
           refine labels_false hil ?_
           clear ih next hi; rw [ho]; simp_all)
  · have hc1 : ¬ (i : Int) < ((l.map pairRow).length : Int) := by rw [hll]; omega
    obtain rfl : i = l.length := by omega
    repeat' (first
      | ((with_reducible apply Onw.mk); conv => whnf)
      | (with_reducible first | apply Br.tt | apply Br.ff | apply Br.no)
      | ((with_reducible apply Br.t); · assumption)
      | ((with_reducible apply Br.f); · assumption)
      | ((with_reducible apply Br.dt); · exact ab_known)
      | ((with_reducible apply Br.df); · exact ab_known)
      | (with_reducible first | refine Br.dec (fun hc => ?_) (fun hc => ?_) | refine Br.mk (fun hc => ?_) (fun hc => ?_))
      | ((with_reducible first | apply NeedRows.mk | apply NeedMap.mk | apply NeedIter.mk); · exact ab_look)
      | ((with_reducible apply NeedLen.mk); · first | assumption | rfl)
      | ((with_reducible apply NeedRow.mk); · exact ab_lookR)
      | ((with_reducible apply DrawG.mk (List.replicate 60 false)); · decide +kernel)
      | (with_reducible first | refine NewP.mk (fun id hid => ?_) | refine NilP.mk (fun e he => ?_))
      | (with_reducible first | exact trivial | exact And.intro rfl rfl)
      | ((with_reducible apply PreP.mk); · exact ab_asked)
      | refine Exists.intro _ (PreP.mk (bytesOf_lst _) ?_)
      | refine PreP.mk (lenD_lst _) ?_
      | (with_reducible first | refine PreP.mk ?_ ?_ | refine BothP.mk ?_ ?_)
      | ((with_reducible apply AncOr.anc); · decide +kernel)
      | with_reducible refine AncOr.go ?_)
    refine ⟨congrArg boolD ?_, _, rfl⟩
    rw [labels_true hi.2, decide_eq_decide]; omega
theorem c44 (H : Heap) (l : List Pair) (hl : Fits l) : CallOK Try.prog 44 [.p (.lst (l.map pairRow))] H (fun r H' => r = boolD (labelsOK l) ∧ H' = H) :=
  (CallOK.trim (Q := fun r => r = boolD (labelsOK l)) ((CallOK.of_spec (q44 l hl H)).mono (fun _ _ hr => ⟨hr.2, by rw [hr.1]; rfl, hr.1⟩))).mono (fun _ _ hr => ⟨hr.2.2, hr.1⟩)
theorem c25 (H : Heap) (l : List Pair) (hl : Fits l) : CallOK Try.prog 25 [.p (.lst (l.map pairRow))] H (fun r H' => r = boolD (labelsOK l) ∧ H' = H) := (CallOK.of_spec (q25 l hl H)).mono fun _ _ h => ⟨h.2, h.1⟩
end Go.Proofs.Ytjlhkbikconboaa
