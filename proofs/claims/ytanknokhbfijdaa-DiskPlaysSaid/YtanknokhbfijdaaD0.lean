/- What functions of the disk, and of the laws over it, do. Conditions: those that each theorem names. -/
import Derived.Test.YtanknokhbfijdaaProg
import Derived.KernelRfl
import Derived.Test.YtanknokhbfijdaaKc
set_option linter.unusedVariables false
set_option linter.unusedSimpArgs false
namespace Go.Proofs.Ytanknokhbfijdaa
open Go.Ab
set_option maxRecDepth 100000
attribute [local irreducible] Run CallOK DetCall Br PreP BothP AncOr Onw NeedRows NeedMap NeedRow NeedLen NilP NeedIter RoundP EntryP EqP OptP NewP NewSlice NewMade AppTo DrawG anc drawB
theorem hm : Try.prog.follows .mixedOrders = true := by kernel_rfl
def nameB (c : Nat) : Bool := decide (97 ≤ c ∧ c ≤ 122) || decide (65 ≤ c ∧ c ≤ 90) || decide (48 ≤ c ∧ c ≤ 57) || decide (c = 45) || decide (c = 46)
set_option maxHeartbeats 400000
theorem s47 (l : List UInt8) (hl : l.length ≤ 1000) (H : Heap) : Ab.Spec Try.prog 47 [.p (.str l)] H (fun r H' => H' = H ∧ r = boolD (l.all (fun c => nameB c.toNat) && decide (1 ≤ l.length ∧ l.length ≤ 20))) := by
  refine Ab.Spec.walk hm Try.func47 (by kernel_rfl) 40 ?_
  repeat' (first
    | ((with_reducible apply Onw.mk); conv => whnf)
    | (with_reducible first | apply Br.tt | apply Br.ff | apply Br.no)
    | ((with_reducible apply Br.t); · assumption)
    | ((with_reducible apply Br.f); · assumption)
    | ((with_reducible apply Br.dt); · exact ab_known)
    | ((with_reducible apply Br.df); · exact ab_known)
    | (with_reducible first | refine Br.dec (fun hc => ?_) (fun hc => ?_) | refine Br.mk (fun hc => ?_) (fun hc => ?_))
    | ((with_reducible first | apply NeedRows.mk | apply NeedMap.mk | apply NeedIter.mk); · exact ab_look)
    | ((with_reducible apply NeedLen.mk); · first | assumption | rfl)
    | ((with_reducible apply NeedRow.mk); · exact ab_lookR)
    | ((with_reducible apply DrawG.mk (List.replicate 60 false)); · decide +kernel)
    | (with_reducible first | refine NewP.mk (fun id hid => ?_) | refine NilP.mk (fun e he => ?_))
    | (with_reducible first | exact trivial | exact And.intro rfl rfl)
    | ((with_reducible apply PreP.mk); · exact ab_asked)
    | refine Exists.intro _ (PreP.mk (bytesOf_lst _) ?_)
    | refine PreP.mk (lenD_lst _) ?_
    | (with_reducible first | refine PreP.mk ?_ ?_ | refine BothP.mk ?_ ?_)
    | ((with_reducible apply AncOr.anc); · decide +kernel)
    | with_reducible refine AncOr.go ?_)
  refine Run.keep [(0, .p (.str l)), (6, i64 l.length), (7, i64 (0 : Nat))] ⟨rfl, rfl, rfl, trivial⟩ ?_
  refine Run.loop (fun (i : Nat) => [(0, .p (.str l)), (6, i64 l.length), (7, i64 i)]) (fun _ => H) (fun i => i ≤ l.length ∧ ∀ k, k < i → nameB (l.getD k 0).toNat = true) (fun i => l.length - i) ?_ 0 ⟨Nat.zero_le _, fun k h => absurd h (Nat.not_lt_zero _)⟩
  intro i hi ih
  refine Run.walk hm Try.func47 100 ?_
  repeat' (first
    | ((with_reducible apply Onw.mk); conv => whnf)
    | (with_reducible first | apply Br.tt | apply Br.ff | apply Br.no)
    | ((with_reducible apply Br.t); · assumption)
    | ((with_reducible apply Br.f); · assumption)
    | ((with_reducible apply Br.dt); · exact ab_known)
    | ((with_reducible apply Br.df); · exact ab_known)
    | (with_reducible first | refine Br.dec (fun hc => ?_) (fun hc => ?_) | refine Br.mk (fun hc => ?_) (fun hc => ?_))
    | ((with_reducible first | apply NeedRows.mk | apply NeedMap.mk | apply NeedIter.mk); · exact ab_look)
    | ((with_reducible apply NeedLen.mk); · first | assumption | rfl)
    | ((with_reducible apply NeedRow.mk); · exact ab_lookR)
    | ((with_reducible apply DrawG.mk (List.replicate 60 false)); · decide +kernel)
    | (with_reducible first | refine NewP.mk (fun id hid => ?_) | refine NilP.mk (fun e he => ?_))
    | (with_reducible first | exact trivial | exact And.intro rfl rfl)
    | ((with_reducible apply PreP.mk); · exact ab_asked)
    | refine Exists.intro _ (PreP.mk (bytesOf_lst _) ?_)
    | refine PreP.mk (lenD_lst _) ?_
    | (with_reducible first | refine PreP.mk ?_ ?_ | refine BothP.mk ?_ ?_)
    | ((with_reducible apply AncOr.anc); · decide +kernel)
    | with_reducible refine AncOr.go ?_)
  all_goals first
    | (refine Run.keep _ ?_ (ih (i + 1) ⟨by omega, fun k hk => ?_⟩ (by omega))
       · exact ⟨rfl, rfl, slot64 (by omega) (by omega) (by omega), trivial⟩
       · rcases Nat.lt_or_ge k i with h | h
         · exact hi.2 k h
         · have e : k = Int.toNat (i : Int) := by omega
           rw [e]
           simp only [nameB, Bool.or_eq_true, decide_eq_true_eq]
           omega)
    | (refine ⟨rfl, ?_⟩
       have hn : nameB (l.getD (Int.toNat (i : Int)) 0).toNat = false := by
         rw [Bool.eq_false_iff]
         simp only [nameB, ne_eq, Bool.or_eq_true, decide_eq_true_eq]
         omega
       rw [all_false (i := Int.toNat (i : Int)) (by omega) hn]
       rfl)
    | (refine ⟨rfl, ?_⟩
       have e : i = l.length := by omega
       subst e
       rw [all_true hi.2]
       simp only [Bool.true_and]
       refine congrArg boolD ?_
       rw [Bool.eq_iff_iff]
       simp only [decide_eq_true_eq, Bool.false_eq_true, false_iff]
       omega)
end Go.Proofs.Ytanknokhbfijdaa
