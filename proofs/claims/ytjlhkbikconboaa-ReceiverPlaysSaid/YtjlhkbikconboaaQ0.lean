/- What functions of the receiver, of labels, rows, batches, and of the laws over them, do. Conditions: those that each theorem names. -/
import Derived.Test.YtjlhkbikconboaaProg
import Derived.KernelRfl
import Derived.Test.YtjlhkbikconboaaKc
set_option linter.unusedVariables false
set_option linter.unusedSimpArgs false
namespace Go.Proofs.Ytjlhkbikconboaa
open Go.Ab
set_option maxRecDepth 100000
set_option maxHeartbeats 1000000
attribute [local irreducible] Run CallOK DetCall Br PreP BothP AncOr Onw NeedRows NeedMap NeedRow NeedLen NilP NeedIter RoundP EntryP EqP OptP NewP NewSlice NewMade AppTo DrawG anc drawB
theorem hm : Try.prog.follows .mixedOrders = true := by kernel_rfl
/-- A byte that may stand at a place of a name. -/
def nameC (i c : Nat) : Bool := decide (97 ≤ c ∧ c ≤ 122) || decide (65 ≤ c ∧ c ≤ 90) || decide (c = 95) || decide (48 ≤ c ∧ c ≤ 57 ∧ 0 < i)
def nameOK (l : List UInt8) : Bool := (List.range l.length).all (fun k => nameC k (l.getD k 0).toNat) && decide (1 ≤ l.length ∧ l.length ≤ 20)
theorem range_false {n i : Nat} {f : Nat → Bool} (h : i < n) (hf : f i = false) : (List.range n).all f = false := by
  rw [Bool.eq_false_iff]
  intro ha
  rw [List.all_eq_true] at ha
  rw [ha i (List.mem_range.2 h)] at hf; cases hf
theorem range_true {n : Nat} {f : Nat → Bool} (h : ∀ k, k < n → f k = true) : (List.range n).all f = true := by
  rw [List.all_eq_true]
  exact fun k hk => h k (List.mem_range.1 hk)
theorem q28 (l : List UInt8) (hl : l.length ≤ 9223372036854775807) (H : Heap) : Ab.Spec Try.prog 28 [.p (.str l)] H (fun r H' => H' = H ∧ r = boolD (nameOK l)) := by
  refine Ab.Spec.walk hm Try.func28 (by kernel_rfl) 60 ?_
  repeat' (first
    | ((with_reducible apply Onw.mk); conv => whnf)
    | (with_reducible first | apply Br.tt | apply Br.ff | apply Br.no)
    | ((with_reducible apply Br.t); · assumption)
    | ((with_reducible apply Br.f); · assumption)
    | ((with_reducible apply Br.dt); · exact ab_known)
    | ((with_reducible apply Br.df); · exact ab_known)
    | (with_reducible first | refine Br.dec (fun hc => ?_) (fun hc => ?_) | refine Br.mk (fun hc => ?_) (fun hc => ?_))
    | ((with_reducible first | apply NeedRows.mk | apply NeedMap.mk | apply NeedIter.mk); · exact ab_look)
    | ((with_reducible apply NeedLen.mk); · first | assumption | rfl)
    | ((with_reducible apply NeedRow.mk); · exact ab_lookR)
    | ((with_reducible apply DrawG.mk (List.replicate 60 false)); · decide +kernel)
    | (with_reducible first | refine NewP.mk (fun id hid => ?_) | refine NilP.mk (fun e he => ?_))
    | (with_reducible first | exact trivial | exact And.intro rfl rfl)
    | ((with_reducible apply PreP.mk); · exact ab_asked)
    | refine Exists.intro _ (PreP.mk (bytesOf_lst _) ?_)
    | refine PreP.mk (lenD_lst _) ?_
    | (with_reducible first | refine PreP.mk ?_ ?_ | refine BothP.mk ?_ ?_)
    | ((with_reducible apply AncOr.anc); · decide +kernel)
    | with_reducible refine AncOr.go ?_)
  refine Run.keep [(0, .p (.str l)), (6, i64 l.length), (7, i64 (0 : Nat))] ⟨rfl, rfl, rfl, trivial⟩ ?_
  refine Run.loop (fun (i : Nat) => [(0, .p (.str l)), (6, i64 l.length), (7, i64 i)]) (fun _ => H) (fun i => i ≤ l.length ∧ ∀ k, k < i → nameC k (l.getD k 0).toNat = true) (fun i => l.length - i) ?_ 0 ⟨Nat.zero_le _, fun k h => absurd h (Nat.not_lt_zero _)⟩
  intro i hi ih
  refine Run.walk hm Try.func28 100 ?_
  repeat' (first
    | ((with_reducible apply Onw.mk); conv => whnf)
    | (with_reducible first | apply Br.tt | apply Br.ff | apply Br.no)
    | ((with_reducible apply Br.t); · assumption)
    | ((with_reducible apply Br.f); · assumption)
    | ((with_reducible apply Br.dt); · exact ab_known)
    | ((with_reducible apply Br.df); · exact ab_known)
    | (with_reducible first | refine Br.dec (fun hc => ?_) (fun hc => ?_) | refine Br.mk (fun hc => ?_) (fun hc => ?_))
    | ((with_reducible first | apply NeedRows.mk | apply NeedMap.mk | apply NeedIter.mk); · exact ab_look)
    | ((with_reducible apply NeedLen.mk); · first | assumption | rfl)
    | ((with_reducible apply NeedRow.mk); · exact ab_lookR)
    | ((with_reducible apply DrawG.mk (List.replicate 60 false)); · decide +kernel)
    | (with_reducible first | refine NewP.mk (fun id hid => ?_) | refine NilP.mk (fun e he => ?_))
    | (with_reducible first | exact trivial | exact And.intro rfl rfl)
    | ((with_reducible apply PreP.mk); · exact ab_asked)
    | refine Exists.intro _ (PreP.mk (bytesOf_lst _) ?_)
    | refine PreP.mk (lenD_lst _) ?_
    | (with_reducible first | refine PreP.mk ?_ ?_ | refine BothP.mk ?_ ?_)
    | ((with_reducible apply AncOr.anc); · decide +kernel)
    | with_reducible refine AncOr.go ?_)
  all_goals first
    | (refine Run.keep _ ?_ (ih (i + 1) ⟨by omega, fun k hk => ?_⟩ (by omega))
       · exact ⟨rfl, rfl, slot64 (by omega) (by omega) (by omega), trivial⟩
       · rcases Nat.lt_or_ge k i with h | h
         · exact hi.2 k h
         · have e : k = Int.toNat (i : Int) := by omega
           rw [e]
           simp only [nameC, Bool.or_eq_true, decide_eq_true_eq]
           omega)
    | (refine ⟨rfl, ?_⟩
       have hn : nameC (Int.toNat (i : Int)) (l.getD (Int.toNat (i : Int)) 0).toNat = false := by
         rw [Bool.eq_false_iff]
         simp only [nameC, ne_eq, Bool.or_eq_true, decide_eq_true_eq]
         omega
       unfold nameOK
       rw [range_false (i := Int.toNat (i : Int)) (by omega) hn]
       rfl)
    | (refine ⟨rfl, ?_⟩
       have e : i = l.length := by omega
       subst e
       unfold nameOK
       rw [range_true hi.2]
       simp only [Bool.true_and]
       refine congrArg boolD ?_
       rw [Bool.eq_iff_iff]
       simp only [decide_eq_true_eq, Bool.false_eq_true, false_iff]
       omega)
theorem q24 (l : List UInt8) (hl : l.length ≤ 9223372036854775807) (H : Heap) : Ab.Spec Try.prog 24 [.p (.str l)] H (fun r H' => H' = H ∧ r = boolD (nameOK l)) := by
  refine Ab.Spec.walk hm Try.func24 (by kernel_rfl) 60 ?_
  repeat' (first
    | ((with_reducible apply Onw.mk); conv => whnf)
    | (with_reducible first | apply Br.tt | apply Br.ff | apply Br.no)
    | ((with_reducible apply Br.t); · assumption)
    | ((with_reducible apply Br.f); · assumption)
    | ((with_reducible apply Br.dt); · exact ab_known)
    | ((with_reducible apply Br.df); · exact ab_known)
    | (with_reducible first | refine Br.dec (fun hc => ?_) (fun hc => ?_) | refine Br.mk (fun hc => ?_) (fun hc => ?_))
    | ((with_reducible first | apply NeedRows.mk | apply NeedMap.mk | apply NeedIter.mk); · exact ab_look)
    | ((with_reducible apply NeedLen.mk); · first | assumption | rfl)
    | ((with_reducible apply NeedRow.mk); · exact ab_lookR)
    | ((with_reducible apply DrawG.mk (List.replicate 60 false)); · decide +kernel)
    | (with_reducible first | refine NewP.mk (fun id hid => ?_) | refine NilP.mk (fun e he => ?_))
    | (with_reducible first | exact trivial | exact And.intro rfl rfl)
    | ((with_reducible apply PreP.mk); · exact ab_asked)
    | refine Exists.intro _ (PreP.mk (bytesOf_lst _) ?_)
    | refine PreP.mk (lenD_lst _) ?_
    | (with_reducible first | refine PreP.mk ?_ ?_ | refine BothP.mk ?_ ?_)
    | ((with_reducible apply AncOr.anc); · decide +kernel)
    | with_reducible refine AncOr.go ?_)
  refine Run.keep [(0, .p (.str l)), (3, i64 (0 : Nat))] ⟨rfl, rfl, trivial⟩ ?_
  refine Run.loop (fun (i : Nat) => [(0, .p (.str l)), (3, i64 i)]) (fun _ => H) (fun i => i ≤ l.length ∧ ∀ k, k < i → nameC k (l.getD k 0).toNat = true) (fun i => l.length - i) ?_ 0 ⟨Nat.zero_le _, fun k h => absurd h (Nat.not_lt_zero _)⟩
  intro i hi ih
  refine Run.walk hm Try.func24 100 ?_
  repeat' (first
    | ((with_reducible apply Onw.mk); conv => whnf)
    | (with_reducible first | apply Br.tt | apply Br.ff | apply Br.no)
    | ((with_reducible apply Br.t); · assumption)
    | ((with_reducible apply Br.f); · assumption)
    | ((with_reducible apply Br.dt); · exact ab_known)
    | ((with_reducible apply Br.df); · exact ab_known)
    | (with_reducible first | refine Br.dec (fun hc => ?_) (fun hc => ?_) | refine Br.mk (fun hc => ?_) (fun hc => ?_))
    | ((with_reducible first | apply NeedRows.mk | apply NeedMap.mk | apply NeedIter.mk); · exact ab_look)
    | ((with_reducible apply NeedLen.mk); · first | assumption | rfl)
    | ((with_reducible apply NeedRow.mk); · exact ab_lookR)
    | ((with_reducible apply DrawG.mk (List.replicate 60 false)); · decide +kernel)
    | (with_reducible first | refine NewP.mk (fun id hid => ?_) | refine NilP.mk (fun e he => ?_))
    | (with_reducible first | exact trivial | exact And.intro rfl rfl)
    | ((with_reducible apply PreP.mk); · exact ab_asked)
    | refine Exists.intro _ (PreP.mk (bytesOf_lst _) ?_)
    | refine PreP.mk (lenD_lst _) ?_
    | (with_reducible first | refine PreP.mk ?_ ?_ | refine BothP.mk ?_ ?_)
    | ((with_reducible apply AncOr.anc); · decide +kernel)
    | with_reducible refine AncOr.go ?_)
  all_goals first
    | (refine Run.keep _ ?_ (ih (i + 1) ⟨by omega, fun k hk => ?_⟩ (by omega))
       · exact ⟨rfl, slot64 (by omega) (by omega) (by omega), trivial⟩
       · rcases Nat.lt_or_ge k i with h | h
         · exact hi.2 k h
         · have e : k = Int.toNat (i : Int) := by omega
           rw [e]
           simp only [nameC, Bool.or_eq_true, decide_eq_true_eq]
           omega)
    | (refine ⟨rfl, ?_⟩
       have hn : nameC (Int.toNat (i : Int)) (l.getD (Int.toNat (i : Int)) 0).toNat = false := by
         rw [Bool.eq_false_iff]
         simp only [nameC, ne_eq, Bool.or_eq_true, decide_eq_true_eq]
         omega
       unfold nameOK
       rw [range_false (i := Int.toNat (i : Int)) (by omega) hn]
       rfl)
    | (refine ⟨rfl, ?_⟩
       have e : i = l.length := by omega
       subst e
       unfold nameOK
       rw [range_true hi.2]
       simp only [Bool.true_and]
       refine congrArg boolD ?_
       rw [Bool.eq_iff_iff]
       simp only [decide_eq_true_eq, Bool.false_eq_true, false_iff]
       omega)
end Go.Proofs.Ytjlhkbikconboaa
