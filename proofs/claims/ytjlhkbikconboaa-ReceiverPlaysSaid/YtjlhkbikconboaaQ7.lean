/- What functions of the receiver, of labels, rows, batches, and of the laws over them, do. Conditions: those that each theorem names. -/
import Derived.Test.YtjlhkbikconboaaQ6
set_option linter.unusedVariables false
set_option linter.unusedSimpArgs false
namespace Go.Proofs.Ytjlhkbikconboaa
open Go.Ab
set_option maxRecDepth 100000
set_option maxHeartbeats 1000000
attribute [local irreducible] Run CallOK DetCall Br PreP BothP AncOr Onw NeedRows NeedMap NeedRow NeedLen NilP NeedIter RoundP EntryP EqP OptP NewP NewSlice NewMade AppTo DrawG anc drawB
theorem q27 (x y : List Pair) (hx : x.length ≤ 9223372036854775807) (H : Heap) : Ab.Spec Try.prog 27 [.p (.lst (x.map pairRow)), .p (.lst (y.map pairRow))] H (fun r H' => H' = H ∧ r = i64 (cmpL x y)) := by
  have hlx : ((x.map pairRow).length : Int) = x.length := by simp
  have hly : ((y.map pairRow).length : Int) = y.length := by simp
  refine Ab.Spec.walk hm Try.func27 (by kernel_rfl) 60 ?_
  repeat' (first
    | ((with_reducible apply Onw.mk); conv => whnf)
    | (with_reducible first | apply Br.tt | apply Br.ff | apply Br.no)
    | ((with_reducible apply Br.t); · assumption)
    | ((with_reducible apply Br.f); · assumption)
    | ((with_reducible apply Br.dt); · exact ab_known)
    | ((with_reducible apply Br.df); · exact ab_known)
    | (with_reducible first | refine Br.dec (fun hc => ?_) (fun hc => ?_) | refine Br.mk (fun hc => ?_) (fun hc => ?_))
    | ((with_reducible first | apply NeedRows.mk | apply NeedMap.mk | apply NeedIter.mk); · exact ab_look)
    | ((with_reducible apply NeedLen.mk); · first | assumption | rfl)
    | ((with_reducible apply NeedRow.mk); · exact ab_lookR)
    | ((with_reducible apply DrawG.mk (List.replicate 60 false)); · decide +kernel)
    | (with_reducible first | refine NewP.mk (fun id hid => ?_) | refine NilP.mk (fun e he => ?_))
    | (with_reducible first | exact trivial | exact And.intro rfl rfl)
    | ((with_reducible apply PreP.mk); · exact ab_asked)
    | refine Exists.intro _ (PreP.mk (bytesOf_lst _) ?_)
    | refine PreP.mk (lenD_lst _) ?_
    | (with_reducible first | refine PreP.mk ?_ ?_ | refine BothP.mk ?_ ?_)
    | ((with_reducible apply AncOr.anc); · decide +kernel)
    | with_reducible refine AncOr.go ?_)
  refine Run.keep [(0, .p (.lst (x.map pairRow))), (1, .p (.lst (y.map pairRow))), (5, i64 (0 : Nat))] ⟨rfl, rfl, rfl, trivial⟩ ?_
  refine Run.loop (fun (i : Nat) => [(0, .p (.lst (x.map pairRow))), (1, .p (.lst (y.map pairRow))), (5, i64 (i : Nat))]) (fun _ => H) (fun i => i ≤ x.length ∧ i ≤ y.length ∧ cmpL x y = cmpL (x.drop i) (y.drop i)) (fun i => x.length - i) ?_ 0 ⟨Nat.zero_le _, Nat.zero_le _, rfl⟩
  rintro i ⟨hix, hiy, heq⟩ ih
  refine Run.walk hm Try.func27 100 ?_
  rcases Nat.lt_or_ge i x.length with hi | hi
  · have hc1 : (i : Int) < ((x.map pairRow).length : Int) := by rw [hlx]; omega
    obtain ⟨p, hp⟩ : ∃ p, x[i]? = some p := ⟨_, List.getElem?_eq_getElem hi⟩
    have hri : Ab.rowAt (x.map pairRow) (i : Int).toNat = pairRow p := rowAt_map hp
    have hrp : (0 : Int) ≤ (i : Int) ∧ (i : Int) < ((x.map pairRow).length : Int) ∧ (Ab.rowAt (x.map pairRow) (i : Int).toNat).length = 2 := ⟨by omega, hc1, by rw [hri]; rfl⟩
    rw [drop_cons hp] at heq
    rcases Nat.lt_or_ge i y.length with hj | hj
    · have hc2 : (i : Int) < ((y.map pairRow).length : Int) := by rw [hly]; omega
      obtain ⟨q, hq⟩ : ∃ q, y[i]? = some q := ⟨_, List.getElem?_eq_getElem hj⟩
      have hrj : Ab.rowAt (y.map pairRow) (i : Int).toNat = pairRow q := rowAt_map hq
      have hrq : (0 : Int) ≤ (i : Int) ∧ (i : Int) < ((y.map pairRow).length : Int) ∧ (Ab.rowAt (y.map pairRow) (i : Int).toNat).length = 2 := ⟨by omega, by rw [hly]; omega, by rw [hrj]; rfl⟩
      rw [drop_cons hq] at heq
      repeat' (first
        | ((with_reducible apply Onw.mk); conv => whnf)
        | (with_reducible first | apply Br.tt | apply Br.ff | apply Br.no)
        | ((with_reducible apply Br.t); · assumption)
        | ((with_reducible apply Br.f); · assumption)
        | ((with_reducible apply Br.dt); · exact ab_known)
        | ((with_reducible apply Br.df); · exact ab_known)
        | (with_reducible first | refine Br.dec (fun hc => ?_) (fun hc => ?_) | refine Br.mk (fun hc => ?_) (fun hc => ?_))
        | (refine PreP.mk hrp ?_)
        | (refine EqP.mk hri ?_)
        | (refine PreP.mk hrq ?_)
        | (refine EqP.mk hrj ?_)
        | (refine DetCall.go (c42 _ p.1 q.1) ?_)
        | (refine DetCall.go (c42 _ p.2 q.2) ?_)
        | ((with_reducible first | apply NeedRows.mk | apply NeedMap.mk | apply NeedIter.mk); · exact ab_look)
        | ((with_reducible apply NeedLen.mk); · first | assumption | rfl)
        | ((with_reducible apply NeedRow.mk); · exact ab_lookR)
        | ((with_reducible apply DrawG.mk (List.replicate 60 false)); · decide +kernel)
        | (with_reducible first | refine NewP.mk (fun id hid => ?_) | refine NilP.mk (fun e he => ?_))
        | (with_reducible first | exact trivial | exact And.intro rfl rfl)
        | ((with_reducible apply PreP.mk); · exact ab_asked)
        | refine Exists.intro _ (PreP.mk (bytesOf_lst _) ?_)
        | refine PreP.mk (lenD_lst _) ?_
        | (with_reducible first | refine PreP.mk ?_ ?_ | refine BothP.mk ?_ ?_)
        | ((with_reducible apply AncOr.anc); · decide +kernel)
        | with_reducible refine AncOr.go ?_)
      · rename_i hc0
        refine Run.keep _ ?_ (ih (i + 1) ⟨by omega, by omega, ?_⟩ (by omega))
        · exact ⟨rfl, rfl, slot64 (by omega) (by omega) (by omega), trivial⟩
        · rw [heq]; simp only [cmpL, cmpP, orI, if_pos hc0, if_pos hc]
      · rename_i hc0
        refine ⟨rfl, ?_⟩
        rw [heq]; simp only [cmpL, cmpP, orI, if_pos hc0, if_neg hc]; rfl
      · refine ⟨rfl, ?_⟩
        rw [heq]; simp only [cmpL, cmpP, orI, if_neg hc]; rfl
    · have hc2 : ¬ (i : Int) < ((y.map pairRow).length : Int) := by rw [hly]; omega
      have hy0 : y.drop i = [] := List.drop_eq_nil_of_le hj
      rw [hy0] at heq
      repeat' (first
        | ((with_reducible apply Onw.mk); conv => whnf)
        | (with_reducible first | apply Br.tt | apply Br.ff | apply Br.no)
        | ((with_reducible apply Br.t); · assumption)
        | ((with_reducible apply Br.f); · assumption)
        | ((with_reducible apply Br.dt); · exact ab_known)
        | ((with_reducible apply Br.df); · exact ab_known)
        | (with_reducible first | refine Br.dec (fun hc => ?_) (fun hc => ?_) | refine Br.mk (fun hc => ?_) (fun hc => ?_))
        | ((with_reducible first | apply NeedRows.mk | apply NeedMap.mk | apply NeedIter.mk); · exact ab_look)
        | ((with_reducible apply NeedLen.mk); · first | assumption | rfl)
        | ((with_reducible apply NeedRow.mk); · exact ab_lookR)
        | ((with_reducible apply DrawG.mk (List.replicate 60 false)); · decide +kernel)
        | (with_reducible first | refine NewP.mk (fun id hid => ?_) | refine NilP.mk (fun e he => ?_))
        | (with_reducible first | exact trivial | exact And.intro rfl rfl)
        | ((with_reducible apply PreP.mk); · exact ab_asked)
        | refine Exists.intro _ (PreP.mk (bytesOf_lst _) ?_)
        | refine PreP.mk (lenD_lst _) ?_
        | (with_reducible first | refine PreP.mk ?_ ?_ | refine BothP.mk ?_ ?_)
        | ((with_reducible apply AncOr.anc); · decide +kernel)
        | with_reducible refine AncOr.go ?_)
      exact ⟨rfl, by rw [heq]; rfl⟩
  · have hc1 : ¬ (i : Int) < ((x.map pairRow).length : Int) := by rw [hlx]; omega
    have hx0 : x.drop i = [] := List.drop_eq_nil_of_le hi
    repeat' (first
      | ((with_reducible apply Onw.mk); conv => whnf)
      | (with_reducible first | apply Br.tt | apply Br.ff | apply Br.no)
      | ((with_reducible apply Br.t); · assumption)
      | ((with_reducible apply Br.f); · assumption)
      | ((with_reducible apply Br.dt); · exact ab_known)
      | ((with_reducible apply Br.df); · exact ab_known)
      | (with_reducible first | refine Br.dec (fun hc => ?_) (fun hc => ?_) | refine Br.mk (fun hc => ?_) (fun hc => ?_))
      | ((with_reducible first | apply NeedRows.mk | apply NeedMap.mk | apply NeedIter.mk); · exact ab_look)
      | ((with_reducible apply NeedLen.mk); · first | assumption | rfl)
      | ((with_reducible apply NeedRow.mk); · exact ab_lookR)
      | ((with_reducible apply DrawG.mk (List.replicate 60 false)); · decide +kernel)
      | (with_reducible first | refine NewP.mk (fun id hid => ?_) | refine NilP.mk (fun e he => ?_))
      | (with_reducible first | exact trivial | exact And.intro rfl rfl)
      | ((with_reducible apply PreP.mk); · exact ab_asked)
      | refine Exists.intro _ (PreP.mk (bytesOf_lst _) ?_)
      | refine PreP.mk (lenD_lst _) ?_
      | (with_reducible first | refine PreP.mk ?_ ?_ | refine BothP.mk ?_ ?_)
      | ((with_reducible apply AncOr.anc); · decide +kernel)
      | with_reducible refine AncOr.go ?_)
    · refine ⟨rfl, ?_⟩
      obtain ⟨q, hq⟩ : ∃ q, y[i]? = some q := ⟨_, List.getElem?_eq_getElem (by omega)⟩
      rw [heq, hx0, drop_cons hq]; rfl
    · refine ⟨rfl, ?_⟩
      have : y.drop i = [] := List.drop_eq_nil_of_le (by omega)
      rw [heq, hx0, this]; rfl
theorem c27 (H : Heap) (x y : List Pair) (hx : x.length ≤ 9223372036854775807) : CallOK Try.prog 27 [.p (.lst (x.map pairRow)), .p (.lst (y.map pairRow))] H (fun r H' => r = i64 (cmpL x y) ∧ H' = H) := (CallOK.of_spec (q27 x y hx H)).mono fun _ _ h => ⟨h.2, h.1⟩
theorem c40 (H : Heap) (x y : List Pair) (hx : x.length ≤ 9223372036854775807) : CallOK Try.prog 40 [.p (.lst (x.map pairRow)), .p (.lst (y.map pairRow))] H (fun r H' => r = boolD (decide (x = y)) ∧ H' = H) := by
  refine CallOK.of_spec ?_
  refine Ab.Spec.walk hm Try.func40 (by kernel_rfl) 60 ?_
  repeat' (first
    | ((with_reducible apply Onw.mk); conv => whnf)
    | (with_reducible first | apply Br.tt | apply Br.ff | apply Br.no)
    | ((with_reducible apply Br.t); · assumption)
    | ((with_reducible apply Br.f); · assumption)
    | ((with_reducible apply Br.dt); · exact ab_known)
    | ((with_reducible apply Br.df); · exact ab_known)
    | (with_reducible first | refine Br.dec (fun hc => ?_) (fun hc => ?_) | refine Br.mk (fun hc => ?_) (fun hc => ?_))
    | (refine CallOK.go (c27 _ x y hx) (fun r2 H2 hr2 => ?_); obtain ⟨rfl, he2⟩ := hr2; rw [he2]; clear he2 H2)
    | ((with_reducible first | apply NeedRows.mk | apply NeedMap.mk | apply NeedIter.mk); · exact ab_look)
    | ((with_reducible apply NeedLen.mk); · first | assumption | rfl)
    | ((with_reducible apply NeedRow.mk); · exact ab_lookR)
    | ((with_reducible apply DrawG.mk (List.replicate 60 false)); · decide +kernel)
    | (with_reducible first | refine NewP.mk (fun id hid => ?_) | refine NilP.mk (fun e he => ?_))
    | (with_reducible first | exact trivial | exact And.intro rfl rfl)
    | ((with_reducible apply PreP.mk); · exact ab_asked)
    | refine Exists.intro _ (PreP.mk (bytesOf_lst _) ?_)
    | refine PreP.mk (lenD_lst _) ?_
    | (with_reducible first | refine PreP.mk ?_ ?_ | refine BothP.mk ?_ ?_)
    | ((with_reducible apply AncOr.anc); · decide +kernel)
    | with_reducible refine AncOr.go ?_)
  refine ⟨congrArg boolD ?_, rfl⟩
  rw [decide_eq_decide]; exact cmpL_zero x y
/-- Which row comes first. -/
def cmpR (a b : Rw) : Int := cmpL a.ls b.ls
theorem q50 (a b : Rw) (ha : Fits a.ls) (hb : Fits b.ls) (H : Heap) : Ab.Spec Try.prog 50 [.p (rowP a), .p (rowP b)] H (fun r H' => r = i64 (cmpR a b) ∧ ∃ z, H' = H ++ z) := by
  refine Ab.Spec.walk hm Try.func50 (by kernel_rfl) 60 ?_
  repeat' (first
    | ((with_reducible apply Onw.mk); conv => whnf)
    | (with_reducible first | apply Br.tt | apply Br.ff | apply Br.no)
    | ((with_reducible apply Br.t); · assumption)
    | ((with_reducible apply Br.f); · assumption)
    | ((with_reducible apply Br.dt); · exact ab_known)
    | ((with_reducible apply Br.df); · exact ab_known)
    | (with_reducible first | refine Br.dec (fun hc => ?_) (fun hc => ?_) | refine Br.mk (fun hc => ?_) (fun hc => ?_))
    | (refine CallOK.go (c51 _ a.ls b.ls ha.1 hb.1) (fun r2 H2 hr2 => ?_); obtain ⟨rfl, he2⟩ := hr2; rw [he2]; clear he2 H2)
    | (refine DetCall.go (c51 _ a.ls b.ls ha.1 hb.1) ?_)
    | ((with_reducible first | apply NeedRows.mk | apply NeedMap.mk | apply NeedIter.mk); · exact ab_look)
    | ((with_reducible apply NeedLen.mk); · first | assumption | rfl)
    | ((with_reducible apply NeedRow.mk); · exact ab_lookR)
    | ((with_reducible apply DrawG.mk (List.replicate 60 false)); · decide +kernel)
    | (with_reducible first | refine NewP.mk (fun id hid => ?_) | refine NilP.mk (fun e he => ?_))
    | (with_reducible first | exact trivial | exact And.intro rfl rfl)
    | ((with_reducible apply PreP.mk); · exact ab_asked)
    | refine Exists.intro _ (PreP.mk (bytesOf_lst _) ?_)
    | refine PreP.mk (lenD_lst _) ?_
    | (with_reducible first | refine PreP.mk ?_ ?_ | refine BothP.mk ?_ ?_)
    | ((with_reducible apply AncOr.anc); · decide +kernel)
    | with_reducible refine AncOr.go ?_)
  exact ⟨rfl, _, List.append_assoc _ _ _⟩
theorem c50 (H : Heap) (a b : Rw) (ha : Fits a.ls) (hb : Fits b.ls) : CallOK Try.prog 50 [.p (rowP a), .p (rowP b)] H (fun r H' => r = i64 (cmpR a b) ∧ H' = H) :=
  (CallOK.trim (Q := fun r => r = i64 (cmpR a b)) ((CallOK.of_spec (q50 a b ha hb H)).mono (fun _ _ hr => ⟨hr.2, by rw [hr.1]; rfl, hr.1⟩))).mono (fun _ _ hr => ⟨hr.2.2, hr.1⟩)
def rowsD (l : List Rw) : List (List D) := (l.map rowRow).map (·.map D.p)
end Go.Proofs.Ytjlhkbikconboaa
