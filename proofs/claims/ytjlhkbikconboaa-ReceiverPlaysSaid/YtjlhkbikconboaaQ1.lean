/- What functions of the receiver, of labels, rows, batches, and of the laws over them, do. Conditions: those that each theorem names. -/
import Derived.Test.YtjlhkbikconboaaQ0
import Derived.Test.YtjlhkbikconboaaLaidC
import Derived.Test.YtjlhkbikconboaaKc
set_option linter.unusedVariables false
set_option linter.unusedSimpArgs false
namespace Go.Proofs.Ytjlhkbikconboaa
open Go.Ab
set_option maxRecDepth 100000
set_option maxHeartbeats 1000000
attribute [local irreducible] Run CallOK DetCall Br PreP BothP AncOr Onw NeedRows NeedMap NeedRow NeedLen NilP NeedIter RoundP EntryP EqP OptP NewP NewSlice NewMade AppTo DrawG anc drawB
theorem c61 (H : Heap) (a b : List UInt8) : CallOK Try.prog 61 [.p (.str a), .p (.str b)] H (fun r H' => r = i64 (Lib.compareBytes a b) ∧ H' = H) :=
  CallOK.strStr (F := Lib.compareBytes) (Enters.mk Try.func61 rfl (by kernel_rfl)) (fun a b w => Any.strings_Compare Try.lays106 a b w) a b
theorem c73 (H : Heap) (a : List UInt8) (n : Int) : CallOK Try.prog 73 [.p (.str a), .p (.int .u8 n)] H (fun r H' => r = i64 (Lib.indexByte a n.toNat.toUInt8) ∧ H' = H) :=
  CallOK.strByte (F := fun a n => Lib.indexByte a n.toNat.toUInt8) (Enters.mk Try.func73 rfl (by kernel_rfl)) (fun a n w => Any.strings_IndexByte Try.lays137 a n w) a n
theorem indexByte_neg (l : List UInt8) (c : UInt8) : Lib.indexByte l c < 0 ↔ c ∉ l := by
  induction l with
  | nil => simp [Lib.indexByte]
  | cons b l ih =>
    have h1 := Lib.indexByte_ge l c
    unfold Lib.indexByte
    by_cases hb : b = c
    · subst hb; simp
    · have hb2 : (b == c) = false := by simpa using hb
      simp only [hb2]
      by_cases hm : Lib.indexByte l c = -1
      · have : c ∉ l := ih.1 (by omega)
        simp [hm, this, Ne.symm hb]
      · have : c ∈ l := by
          rw [← Decidable.not_not (p := c ∈ l), ← ih]; omega
        simp [hm, this]; omega
/-- A label's value. -/
def noNl (l : List UInt8) : Bool := decide ((10 : UInt8) ∉ l)
def valueOK (l : List UInt8) : Bool := decide (1 ≤ l.length ∧ l.length ≤ 30) && noNl l
theorem q41 (l : List UInt8) (hl : l.length ≤ 9223372036854775807) (H : Heap) : Ab.Spec Try.prog 41 [.p (.str l)] H (fun r H' => H' = H ∧ r = boolD (noNl l && decide (l.length ≤ 30))) := by
  refine Ab.Spec.walk hm Try.func41 (by kernel_rfl) 60 ?_
  repeat' (first
    | ((with_reducible apply Onw.mk); conv => whnf)
    | (with_reducible first | apply Br.tt | apply Br.ff | apply Br.no)
    | ((with_reducible apply Br.t); · assumption)
    | ((with_reducible apply Br.f); · assumption)
    | ((with_reducible apply Br.dt); · exact ab_known)
    | ((with_reducible apply Br.df); · exact ab_known)
    | (with_reducible first | refine Br.dec (fun hc => ?_) (fun hc => ?_) | refine Br.mk (fun hc => ?_) (fun hc => ?_))
    | ((with_reducible first | apply NeedRows.mk | apply NeedMap.mk | apply NeedIter.mk); · exact ab_look)
    | ((with_reducible apply NeedLen.mk); · first | assumption | rfl)
    | ((with_reducible apply NeedRow.mk); · exact ab_lookR)
    | ((with_reducible apply DrawG.mk (List.replicate 60 false)); · decide +kernel)
    | (with_reducible first | refine NewP.mk (fun id hid => ?_) | refine NilP.mk (fun e he => ?_))
    | (with_reducible first | exact trivial | exact And.intro rfl rfl)
    | ((with_reducible apply PreP.mk); · exact ab_asked)
    | refine Exists.intro _ (PreP.mk (bytesOf_lst _) ?_)
    | refine PreP.mk (lenD_lst _) ?_
    | (with_reducible first | refine PreP.mk ?_ ?_ | refine BothP.mk ?_ ?_)
    | ((with_reducible apply AncOr.anc); · decide +kernel)
    | with_reducible refine AncOr.go ?_)
  refine Run.keep [(0, .p (.str l)), (3, i64 (0 : Nat))] ⟨rfl, rfl, trivial⟩ ?_
  refine Run.loop (fun (i : Nat) => [(0, .p (.str l)), (3, i64 i)]) (fun _ => H) (fun i => i ≤ l.length ∧ (10 : UInt8) ∉ l.take i) (fun i => l.length - i) ?_ 0 ⟨Nat.zero_le _, by simp⟩
  intro i hi ih
  refine Run.walk hm Try.func41 100 ?_
  rcases Nat.lt_or_ge i l.length with hil | hil
  · have hc1 : (i : Int) < (l.length : Int) := by omega
    have hg : l[i]? = some (l.getD (Int.toNat (i : Int)) 0) := by
      have e : Int.toNat (i : Int) = i := by omega
      rw [e]; simp [List.getD, hil]
    by_cases h10 : l.getD (Int.toNat (i : Int)) 0 = 10
    · have hc2 : (((l.getD (Int.toNat (i : Int)) 0).toNat : Nat) : Int) = 10 := by rw [h10]; rfl
      repeat' (first
        | ((with_reducible apply Onw.mk); conv => whnf)
        | (with_reducible first | apply Br.tt | apply Br.ff | apply Br.no)
        | ((with_reducible apply Br.t); · assumption)
        | ((with_reducible apply Br.f); · assumption)
        | ((with_reducible apply Br.dt); · exact ab_known)
        | ((with_reducible apply Br.df); · exact ab_known)
        | (with_reducible first | refine Br.dec (fun hc => ?_) (fun hc => ?_) | refine Br.mk (fun hc => ?_) (fun hc => ?_))
        | ((with_reducible first | apply NeedRows.mk | apply NeedMap.mk | apply NeedIter.mk); · exact ab_look)
        | ((with_reducible apply NeedLen.mk); · first | assumption | rfl)
        | ((with_reducible apply NeedRow.mk); · exact ab_lookR)
        | ((with_reducible apply DrawG.mk (List.replicate 60 false)); · decide +kernel)
        | (with_reducible first | refine NewP.mk (fun id hid => ?_) | refine NilP.mk (fun e he => ?_))
        | (with_reducible first | exact trivial | exact And.intro rfl rfl)
        | ((with_reducible apply PreP.mk); · exact ab_asked)
        | refine Exists.intro _ (PreP.mk (bytesOf_lst _) ?_)
        | refine PreP.mk (lenD_lst _) ?_
        | (with_reducible first | refine PreP.mk ?_ ?_ | refine BothP.mk ?_ ?_)
        | ((with_reducible apply AncOr.anc); · decide +kernel)
        | with_reducible refine AncOr.go ?_)
      refine ⟨rfl, ?_⟩
      rw [h10] at hg
      have : noNl l = false := by
        unfold noNl; rw [decide_eq_false_iff_not, Decidable.not_not]; exact List.mem_of_getElem? hg
      rw [this]; rfl
    · have hc2 : ¬ (((l.getD (Int.toNat (i : Int)) 0).toNat : Nat) : Int) = 10 := fun e => h10 (by
        refine UInt8.toNat_inj.1 ?_
        show _ = 10; omega)
      repeat' (first
        | ((with_reducible apply Onw.mk); conv => whnf)
        | (with_reducible first | apply Br.tt | apply Br.ff | apply Br.no)
        | ((with_reducible apply Br.t); · assumption)
        | ((with_reducible apply Br.f); · assumption)
        | ((with_reducible apply Br.dt); · exact ab_known)
        | ((with_reducible apply Br.df); · exact ab_known)
        | (with_reducible first | refine Br.dec (fun hc => ?_) (fun hc => ?_) | refine Br.mk (fun hc => ?_) (fun hc => ?_))
        | ((with_reducible first | apply NeedRows.mk | apply NeedMap.mk | apply NeedIter.mk); · exact ab_look)
        | ((with_reducible apply NeedLen.mk); · first | assumption | rfl)
        | ((with_reducible apply NeedRow.mk); · exact ab_lookR)
        | ((with_reducible apply DrawG.mk (List.replicate 60 false)); · decide +kernel)
        | (with_reducible first | refine NewP.mk (fun id hid => ?_) | refine NilP.mk (fun e he => ?_))
        | (with_reducible first | exact trivial | exact And.intro rfl rfl)
        | ((with_reducible apply PreP.mk); · exact ab_asked)
        | refine Exists.intro _ (PreP.mk (bytesOf_lst _) ?_)
        | refine PreP.mk (lenD_lst _) ?_
        | (with_reducible first | refine PreP.mk ?_ ?_ | refine BothP.mk ?_ ?_)
        | ((with_reducible apply AncOr.anc); · decide +kernel)
        | with_reducible refine AncOr.go ?_)
      refine Run.keep _ ?_ (ih (i + 1) ⟨by omega, ?_⟩ (by omega))
      · exact ⟨rfl, slot64 (by omega) (by omega) (by omega), trivial⟩
      · rw [List.take_add_one, hg]
        simp only [Option.toList_some, List.mem_append, List.mem_singleton, not_or]
        exact ⟨hi.2, fun e => h10 e.symm⟩
  · obtain rfl : i = l.length := by omega
    have hc1 : ¬ (l.length : Int) < (l.length : Int) := by omega
    repeat' (first
      | ((with_reducible apply Onw.mk); conv => whnf)
      | (with_reducible first | apply Br.tt | apply Br.ff | apply Br.no)
      | ((with_reducible apply Br.t); · assumption)
      | ((with_reducible apply Br.f); · assumption)
      | ((with_reducible apply Br.dt); · exact ab_known)
      | ((with_reducible apply Br.df); · exact ab_known)
      | (with_reducible first | refine Br.dec (fun hc => ?_) (fun hc => ?_) | refine Br.mk (fun hc => ?_) (fun hc => ?_))
      | ((with_reducible first | apply NeedRows.mk | apply NeedMap.mk | apply NeedIter.mk); · exact ab_look)
      | ((with_reducible apply NeedLen.mk); · first | assumption | rfl)
      | ((with_reducible apply NeedRow.mk); · exact ab_lookR)
      | ((with_reducible apply DrawG.mk (List.replicate 60 false)); · decide +kernel)
      | (with_reducible first | refine NewP.mk (fun id hid => ?_) | refine NilP.mk (fun e he => ?_))
      | (with_reducible first | exact trivial | exact And.intro rfl rfl)
      | ((with_reducible apply PreP.mk); · exact ab_asked)
      | refine Exists.intro _ (PreP.mk (bytesOf_lst _) ?_)
      | refine PreP.mk (lenD_lst _) ?_
      | (with_reducible first | refine PreP.mk ?_ ?_ | refine BothP.mk ?_ ?_)
      | ((with_reducible apply AncOr.anc); · decide +kernel)
      | with_reducible refine AncOr.go ?_)
    refine ⟨rfl, ?_⟩
    rw [List.take_length] at hi
    have : noNl l = true := by
      unfold noNl; exact decide_eq_true hi.2
    rw [this, Bool.true_and]
    refine congrArg boolD ?_
    rw [decide_eq_decide]; omega
theorem q55 (l : List UInt8) (hl : l.length ≤ 9223372036854775807) (H : Heap) : Ab.Spec Try.prog 55 [.p (.str l)] H (fun r H' => H' = H ∧ r = boolD (valueOK l)) := by
  refine Ab.Spec.walk hm Try.func55 (by kernel_rfl) 60 ?_
  repeat' (first
    | ((with_reducible apply Onw.mk); conv => whnf)
    | (with_reducible first | apply Br.tt | apply Br.ff | apply Br.no)
    | ((with_reducible apply Br.t); · assumption)
    | ((with_reducible apply Br.f); · assumption)
    | ((with_reducible apply Br.dt); · exact ab_known)
    | ((with_reducible apply Br.df); · exact ab_known)
    | (with_reducible first | refine Br.dec (fun hc => ?_) (fun hc => ?_) | refine Br.mk (fun hc => ?_) (fun hc => ?_))
    | ((with_reducible first | apply NeedRows.mk | apply NeedMap.mk | apply NeedIter.mk); · exact ab_look)
    | ((with_reducible apply NeedLen.mk); · first | assumption | rfl)
    | ((with_reducible apply NeedRow.mk); · exact ab_lookR)
    | ((with_reducible apply DrawG.mk (List.replicate 60 false)); · decide +kernel)
    | (with_reducible first | refine NewP.mk (fun id hid => ?_) | refine NilP.mk (fun e he => ?_))
    | (with_reducible first | exact trivial | exact And.intro rfl rfl)
    | ((with_reducible apply PreP.mk); · exact ab_asked)
    | refine Exists.intro _ (PreP.mk (bytesOf_lst _) ?_)
    | refine PreP.mk (lenD_lst _) ?_
    | (with_reducible first | refine PreP.mk ?_ ?_ | refine BothP.mk ?_ ?_)
    | ((with_reducible apply AncOr.anc); · decide +kernel)
    | with_reducible refine AncOr.go ?_)
  · refine CallOK.go (c73 _ _ _) (fun r2 H2 hr => ?_)
    obtain ⟨rfl, he2⟩ := hr
    rw [he2]; clear he2 H2
    repeat' (first
      | ((with_reducible apply Onw.mk); conv => whnf)
      | (with_reducible first | apply Br.tt | apply Br.ff | apply Br.no)
      | ((with_reducible apply Br.t); · assumption)
      | ((with_reducible apply Br.f); · assumption)
      | ((with_reducible apply Br.dt); · exact ab_known)
      | ((with_reducible apply Br.df); · exact ab_known)
      | (with_reducible first | refine Br.dec (fun hc => ?_) (fun hc => ?_) | refine Br.mk (fun hc => ?_) (fun hc => ?_))
      | ((with_reducible first | apply NeedRows.mk | apply NeedMap.mk | apply NeedIter.mk); · exact ab_look)
      | ((with_reducible apply NeedLen.mk); · first | assumption | rfl)
      | ((with_reducible apply NeedRow.mk); · exact ab_lookR)
      | ((with_reducible apply DrawG.mk (List.replicate 60 false)); · decide +kernel)
      | (with_reducible first | refine NewP.mk (fun id hid => ?_) | refine NilP.mk (fun e he => ?_))
      | (with_reducible first | exact trivial | exact And.intro rfl rfl)
      | ((with_reducible apply PreP.mk); · exact ab_asked)
      | refine Exists.intro _ (PreP.mk (bytesOf_lst _) ?_)
      | refine PreP.mk (lenD_lst _) ?_
      | (with_reducible first | refine PreP.mk ?_ ?_ | refine BothP.mk ?_ ?_)
      | ((with_reducible apply AncOr.anc); · decide +kernel)
      | with_reducible refine AncOr.go ?_)
    refine ⟨rfl, congrArg boolD ?_⟩
    have e : decide (1 ≤ l.length ∧ l.length ≤ 30) = true := decide_eq_true (by omega)
    unfold valueOK noNl
    rw [e, Bool.true_and, decide_eq_decide]
    exact indexByte_neg l 10
  · refine ⟨rfl, congrArg boolD ?_⟩
    have e : decide (1 ≤ l.length ∧ l.length ≤ 30) = false := decide_eq_false (by omega)
    unfold valueOK
    rw [e]; rfl
  · refine ⟨rfl, congrArg boolD ?_⟩
    have e : decide (1 ≤ l.length ∧ l.length ≤ 30) = false := decide_eq_false (by omega)
    unfold valueOK
    rw [e]; rfl
end Go.Proofs.Ytjlhkbikconboaa
