/- What functions of the receiver, of labels, rows, batches, and of the laws over them, do. Conditions: those that each theorem names. -/
import Derived.Test.YtjlhkbikconboaaQ16
set_option linter.unusedVariables false
set_option linter.unusedSimpArgs false
namespace Go.Proofs.Ytjlhkbikconboaa
open Go.Ab
set_option maxRecDepth 100000
set_option maxHeartbeats 1000000
attribute [local irreducible] Run CallOK DetCall Br PreP BothP AncOr Onw NeedRows NeedMap NeedRow NeedLen NilP NeedIter RoundP EntryP EqP OptP NewP NewSlice NewMade AppTo DrawG anc drawB
theorem q23 (x y : List Rw) (hx : x.length ≤ 9223372036854775807) (hf : ∀ r ∈ x, Fits r.ls) (H : Heap) : Ab.Spec Try.prog 23 [.p (.lst (x.map rowRow)), .p (.lst (y.map rowRow))] H (fun r H' => H' = H ∧ r = boolD (eqRs x y)) := by
  have hpl := plain66
  have hlx : ((x.map rowRow).length : Int) = x.length := by simp
  have hly : ((y.map rowRow).length : Int) = y.length := by simp
  have hno : ∀ {e : Prop}, (x = y → e) → ¬ e → eqRs x y = false := fun h h2 => by
    rw [Bool.eq_false_iff]; intro e; exact h2 (h ((eqRs_iff x y).1 e))
  refine Ab.Spec.walk hm Try.func23 (by kernel_rfl) 60 ?_
  by_cases hxy : x.length = y.length
  · have hc0 : ((x.map rowRow).length : Int) = ((y.map rowRow).length : Int) := by rw [hlx, hly, hxy]
    repeat' (first
      | ((with_reducible apply Onw.mk); conv => whnf)
      | (with_reducible first | apply Br.tt | apply Br.ff | apply Br.no)
      | ((with_reducible apply Br.t); · assumption)
      | ((with_reducible apply Br.f); · assumption)
      | ((with_reducible apply Br.dt); · exact ab_known)
      | ((with_reducible apply Br.df); · exact ab_known)
      | (with_reducible first | refine Br.dec (fun hc => ?_) (fun hc => ?_) | refine Br.mk (fun hc => ?_) (fun hc => ?_))
      | ((with_reducible first | apply NeedRows.mk | apply NeedMap.mk | apply NeedIter.mk); · exact ab_look)
      | ((with_reducible apply NeedLen.mk); · first | assumption | rfl)
      | ((with_reducible apply NeedRow.mk); · exact ab_lookR)
      | ((with_reducible apply DrawG.mk (List.replicate 60 false)); · decide +kernel)
      | (with_reducible first | refine NewP.mk (fun id hid => ?_) | refine NilP.mk (fun e he => ?_))
      | (with_reducible first | exact trivial | exact And.intro rfl rfl)
      | ((with_reducible apply PreP.mk); · exact ab_asked)
      | refine Exists.intro _ (PreP.mk (bytesOf_lst _) ?_)
      | refine PreP.mk (lenD_lst _) ?_
      | (with_reducible first | refine PreP.mk ?_ ?_ | refine BothP.mk ?_ ?_)
      | ((with_reducible apply AncOr.anc); · decide +kernel)
      | with_reducible refine AncOr.go ?_)
    refine Run.keep [(0, .p (.lst (x.map rowRow))), (1, .p (.lst (y.map rowRow))), (5, i64 (0 : Nat))] ⟨rfl, rfl, rfl, trivial⟩ ?_
    refine Run.loop (fun (i : Nat) => [(0, .p (.lst (x.map rowRow))), (1, .p (.lst (y.map rowRow))), (5, i64 (i : Nat))]) (fun _ => H) (fun i => i ≤ x.length ∧ x.take i = y.take i) (fun i => x.length - i) ?_ 0 ⟨Nat.zero_le _, by simp⟩
    rintro i ⟨hix, heq⟩ ih
    refine Run.walk hm Try.func23 100 ?_
    rcases Nat.lt_or_ge i x.length with hi | hi
    · have hc1 : (i : Int) < ((x.map rowRow).length : Int) := by rw [hlx]; omega
      obtain ⟨p, hp⟩ : ∃ p, x[i]? = some p := ⟨_, List.getElem?_eq_getElem hi⟩
      have hri : Ab.rowAt (x.map rowRow) (i : Int).toNat = rowRow p := rowAt_map hp
      have hrp : (0 : Int) ≤ (i : Int) ∧ (i : Int) < ((x.map rowRow).length : Int) ∧ (Ab.rowAt (x.map rowRow) (i : Int).toNat).length = 3 := ⟨by omega, hc1, by rw [hri]; rfl⟩
      obtain ⟨q, hq⟩ : ∃ q, y[i]? = some q := ⟨_, List.getElem?_eq_getElem (by omega)⟩
      have hrj : Ab.rowAt (y.map rowRow) (i : Int).toNat = rowRow q := rowAt_map hq
      have hrq : (0 : Int) ≤ (i : Int) ∧ (i : Int) < ((y.map rowRow).length : Int) ∧ (Ab.rowAt (y.map rowRow) (i : Int).toNat).length = 3 := ⟨by omega, by rw [hly]; omega, by rw [hrj]; rfl⟩
      have hfp := hf p (List.mem_of_getElem? hp)
      repeat' (first
        | ((with_reducible apply Onw.mk); conv => whnf)
        | (with_reducible first | apply Br.tt | apply Br.ff | apply Br.no)
        | ((with_reducible apply Br.t); · assumption)
        | ((with_reducible apply Br.f); · assumption)
        | ((with_reducible apply Br.dt); · exact ab_known)
        | ((with_reducible apply Br.df); · exact ab_known)
        | (with_reducible first | refine Br.dec (fun hc => ?_) (fun hc => ?_) | refine Br.mk (fun hc => ?_) (fun hc => ?_))
        | (refine PreP.mk hrp ?_)
        | (refine EqP.mk hri ?_)
        | (refine PreP.mk hrq ?_)
        | (refine EqP.mk hrj ?_)
        | (refine PreP.mk hpl ?_)
        | (refine DetCall.go (c40 _ p.ls q.ls hfp.1) ?_)
        | ((with_reducible first | apply NeedRows.mk | apply NeedMap.mk | apply NeedIter.mk); · exact ab_look)
        | ((with_reducible apply NeedLen.mk); · first | assumption | rfl)
        | ((with_reducible apply NeedRow.mk); · exact ab_lookR)
        | ((with_reducible apply DrawG.mk (List.replicate 60 false)); · decide +kernel)
        | (with_reducible first | refine NewP.mk (fun id hid => ?_) | refine NilP.mk (fun e he => ?_))
        | (with_reducible first | exact trivial | exact And.intro rfl rfl)
        | ((with_reducible apply PreP.mk); · exact ab_asked)
        | refine Exists.intro _ (PreP.mk (bytesOf_lst _) ?_)
        | refine PreP.mk (lenD_lst _) ?_
        | (with_reducible first | refine PreP.mk ?_ ?_ | refine BothP.mk ?_ ?_)
        | ((with_reducible apply AncOr.anc); · decide +kernel)
        | with_reducible refine AncOr.go ?_)
      · rename_i hc0
        refine ⟨rfl, congrArg boolD ?_⟩
        refine (hno (e := p = q) (fun e => ?_) (fun e => ?_)).symm
        · subst e; rw [hp] at hq; cases hq; rfl
        · subst e; simp at hc
      · rename_i hc0
        refine Run.keep _ ?_ (ih (i + 1) ⟨by omega, ?_⟩ (by omega))
        · exact ⟨rfl, rfl, slot64 (by omega) (by omega) (by omega), trivial⟩
        · have e : p = q := by
            cases p; cases q
            simp at hc hc0 ⊢
            exact ⟨hc0, hc.1, hc.2⟩
          rw [List.take_add_one, List.take_add_one, heq, hp, hq, e]
      · refine ⟨rfl, congrArg boolD ?_⟩
        refine (hno (e := p = q) (fun e => ?_) (fun e => ?_)).symm
        · subst e; rw [hp] at hq; cases hq; rfl
        · subst e; exact hc rfl
    · obtain rfl : i = x.length := by omega
      have hc1 : ¬ (x.length : Int) < ((x.map rowRow).length : Int) := by rw [hlx]; omega
      repeat' (first
        | ((with_reducible apply Onw.mk); conv => whnf)
        | (with_reducible first | apply Br.tt | apply Br.ff | apply Br.no)
        | ((with_reducible apply Br.t); · assumption)
        | ((with_reducible apply Br.f); · assumption)
        | ((with_reducible apply Br.dt); · exact ab_known)
        | ((with_reducible apply Br.df); · exact ab_known)
        | (with_reducible first | refine Br.dec (fun hc => ?_) (fun hc => ?_) | refine Br.mk (fun hc => ?_) (fun hc => ?_))
        | ((with_reducible first | apply NeedRows.mk | apply NeedMap.mk | apply NeedIter.mk); · exact ab_look)
        | ((with_reducible apply NeedLen.mk); · first | assumption | rfl)
        | ((with_reducible apply NeedRow.mk); · exact ab_lookR)
        | ((with_reducible apply DrawG.mk (List.replicate 60 false)); · decide +kernel)
        | (with_reducible first | refine NewP.mk (fun id hid => ?_) | refine NilP.mk (fun e he => ?_))
        | (with_reducible first | exact trivial | exact And.intro rfl rfl)
        | ((with_reducible apply PreP.mk); · exact ab_asked)
        | refine Exists.intro _ (PreP.mk (bytesOf_lst _) ?_)
        | refine PreP.mk (lenD_lst _) ?_
        | (with_reducible first | refine PreP.mk ?_ ?_ | refine BothP.mk ?_ ?_)
        | ((with_reducible apply AncOr.anc); · decide +kernel)
        | with_reducible refine AncOr.go ?_)
      refine ⟨rfl, congrArg boolD ?_⟩
      rw [List.take_length, hxy, List.take_length] at heq
      exact ((eqRs_iff x y).2 heq).symm
  · have hc0 : ¬ ((x.map rowRow).length : Int) = ((y.map rowRow).length : Int) := by rw [hlx, hly]; omega
    repeat' (first
      | ((with_reducible apply Onw.mk); conv => whnf)
      | (with_reducible first | apply Br.tt | apply Br.ff | apply Br.no)
      | ((with_reducible apply Br.t); · assumption)
      | ((with_reducible apply Br.f); · assumption)
      | ((with_reducible apply Br.dt); · exact ab_known)
      | ((with_reducible apply Br.df); · exact ab_known)
      | (with_reducible first | refine Br.dec (fun hc => ?_) (fun hc => ?_) | refine Br.mk (fun hc => ?_) (fun hc => ?_))
      | ((with_reducible first | apply NeedRows.mk | apply NeedMap.mk | apply NeedIter.mk); · exact ab_look)
      | ((with_reducible apply NeedLen.mk); · first | assumption | rfl)
      | ((with_reducible apply NeedRow.mk); · exact ab_lookR)
      | ((with_reducible apply DrawG.mk (List.replicate 60 false)); · decide +kernel)
      | (with_reducible first | refine NewP.mk (fun id hid => ?_) | refine NilP.mk (fun e he => ?_))
      | (with_reducible first | exact trivial | exact And.intro rfl rfl)
      | ((with_reducible apply PreP.mk); · exact ab_asked)
      | refine Exists.intro _ (PreP.mk (bytesOf_lst _) ?_)
      | refine PreP.mk (lenD_lst _) ?_
      | (with_reducible first | refine PreP.mk ?_ ?_ | refine BothP.mk ?_ ?_)
      | ((with_reducible apply AncOr.anc); · decide +kernel)
      | with_reducible refine AncOr.go ?_)
    refine ⟨rfl, congrArg boolD ?_⟩
    exact (hno (e := x.length = y.length) (fun e => by rw [e]) hxy).symm
theorem c23 (H : Heap) (x y : List Rw) (hx : x.length ≤ 9223372036854775807) (hf : ∀ r ∈ x, Fits r.ls) : CallOK Try.prog 23 [.p (.lst (x.map rowRow)), .p (.lst (y.map rowRow))] H (fun r H' => r = boolD (eqRs x y) ∧ H' = H) := (CallOK.of_spec (q23 x y hx hf H)).mono fun _ _ h => ⟨h.2, h.1⟩
def eqB (a b : Bt) : Bool := decide (a.seq = b.seq) && (decide (a.t = b.t) && (decide (a.g = b.g) && eqRs a.rows b.rows))
theorem eqB_iff (a b : Bt) : eqB a b = true ↔ a = b := by
  unfold eqB
  cases a; cases b
  simp only [Bool.and_eq_true, decide_eq_true_eq, eqRs_iff, Bt.mk.injEq]
def eqBs : List Bt → List Bt → Bool
  | [], [] => true
  | a :: l, b :: m => eqB a b && eqBs l m
  | _, _ => false
theorem eqBs_iff : ∀ (l m : List Bt), eqBs l m = true ↔ l = m
  | [], [] => by simp [eqBs]
  | [], _ :: _ => by simp [eqBs]
  | _ :: _, [] => by simp [eqBs]
  | a :: l, b :: m => by simp [eqBs, eqB_iff, eqBs_iff l m]
theorem q17 (a b : Bt) (ha : FitsB a) (H : Heap) : Ab.Spec Try.prog 17 [.p (btP a), .p (btP b)] H (fun r H' => r = boolD (eqB a b) ∧ ∃ z, H' = H ++ z) := by
  have hbig : a.rows.length ≤ 9223372036854775807 := by have := ha.n; omega
  refine Ab.Spec.walk hm Try.func17 (by kernel_rfl) 60 ?_
  repeat' (first
    | ((with_reducible apply Onw.mk); conv => whnf)
    | (with_reducible first | apply Br.tt | apply Br.ff | apply Br.no)
    | ((with_reducible apply Br.t); · assumption)
    | ((with_reducible apply Br.f); · assumption)
    | ((with_reducible apply Br.dt); · exact ab_known)
    | ((with_reducible apply Br.df); · exact ab_known)
    | (with_reducible first | refine Br.dec (fun hc => ?_) (fun hc => ?_) | refine Br.mk (fun hc => ?_) (fun hc => ?_))
    | (refine CallOK.go (c23 _ a.rows b.rows hbig ha.rows) (fun r2 H2 hr2 => ?_); obtain ⟨rfl, he2⟩ := hr2; rw [he2]; clear he2 H2)
    | (refine DetCall.go (c23 _ a.rows b.rows hbig ha.rows) ?_)
    | ((with_reducible first | apply NeedRows.mk | apply NeedMap.mk | apply NeedIter.mk); · exact ab_look)
    | ((with_reducible apply NeedLen.mk); · first | assumption | rfl)
    | ((with_reducible apply NeedRow.mk); · exact ab_lookR)
    | ((with_reducible apply DrawG.mk (List.replicate 60 false)); · decide +kernel)
    | (with_reducible first | refine NewP.mk (fun id hid => ?_) | refine NilP.mk (fun e he => ?_))
    | (with_reducible first | exact trivial | exact And.intro rfl rfl)
    | ((with_reducible apply PreP.mk); · exact ab_asked)
    | refine Exists.intro _ (PreP.mk (bytesOf_lst _) ?_)
    | refine PreP.mk (lenD_lst _) ?_
    | (with_reducible first | refine PreP.mk ?_ ?_ | refine BothP.mk ?_ ?_)
    | ((with_reducible apply AncOr.anc); · decide +kernel)
    | with_reducible refine AncOr.go ?_)
  all_goals
    refine ⟨congrArg boolD ?_, _, List.append_assoc _ _ _⟩
    unfold eqB
    simp_all
theorem c17 (H : Heap) (a b : Bt) (ha : FitsB a) : CallOK Try.prog 17 [.p (btP a), .p (btP b)] H (fun r H' => r = boolD (eqB a b) ∧ H' = H) :=
  (CallOK.trim (Q := fun r => r = boolD (eqB a b)) ((CallOK.of_spec (q17 a b ha H)).mono (fun _ _ hr => ⟨hr.2, by rw [hr.1]; rfl, hr.1⟩))).mono (fun _ _ hr => ⟨hr.2.2, hr.1⟩)
theorem q13 (x y : List Bt) (hx : x.length ≤ 9223372036854775807) (hf : ∀ b ∈ x, FitsB b) (H : Heap) : Ab.Spec Try.prog 13 [.p (.lst (x.map batRow)), .p (.lst (y.map batRow))] H (fun r H' => H' = H ∧ r = boolD (eqBs x y)) := by
  have hlx : ((x.map batRow).length : Int) = x.length := by simp
  have hly : ((y.map batRow).length : Int) = y.length := by simp
  have hno : ∀ {e : Prop}, (x = y → e) → ¬ e → eqBs x y = false := fun h h2 => by
    rw [Bool.eq_false_iff]; intro e; exact h2 (h ((eqBs_iff x y).1 e))
  refine Ab.Spec.walk hm Try.func13 (by kernel_rfl) 60 ?_
  by_cases hxy : x.length = y.length
  · have hc0 : ((x.map batRow).length : Int) = ((y.map batRow).length : Int) := by rw [hlx, hly, hxy]
    repeat' (first
      | ((with_reducible apply Onw.mk); conv => whnf)
      | (with_reducible first | apply Br.tt | apply Br.ff | apply Br.no)
      | ((with_reducible apply Br.t); · assumption)
      | ((with_reducible apply Br.f); · assumption)
      | ((with_reducible apply Br.dt); · exact ab_known)
      | ((with_reducible apply Br.df); · exact ab_known)
      | (with_reducible first | refine Br.dec (fun hc => ?_) (fun hc => ?_) | refine Br.mk (fun hc => ?_) (fun hc => ?_))
      | ((with_reducible first | apply NeedRows.mk | apply NeedMap.mk | apply NeedIter.mk); · exact ab_look)
      | ((with_reducible apply NeedLen.mk); · first | assumption | rfl)
      | ((with_reducible apply NeedRow.mk); · exact ab_lookR)
      | ((with_reducible apply DrawG.mk (List.replicate 60 false)); · decide +kernel)
      | (with_reducible first | refine NewP.mk (fun id hid => ?_) | refine NilP.mk (fun e he => ?_))
      | (with_reducible first | exact trivial | exact And.intro rfl rfl)
      | ((with_reducible apply PreP.mk); · exact ab_asked)
      | refine Exists.intro _ (PreP.mk (bytesOf_lst _) ?_)
      | refine PreP.mk (lenD_lst _) ?_
      | (with_reducible first | refine PreP.mk ?_ ?_ | refine BothP.mk ?_ ?_)
      | ((with_reducible apply AncOr.anc); · decide +kernel)
      | with_reducible refine AncOr.go ?_)
    refine Run.keep [(0, .p (.lst (x.map batRow))), (1, .p (.lst (y.map batRow))), (5, i64 (0 : Nat))] ⟨rfl, rfl, rfl, trivial⟩ ?_
    refine Run.loop (fun (i : Nat) => [(0, .p (.lst (x.map batRow))), (1, .p (.lst (y.map batRow))), (5, i64 (i : Nat))]) (fun _ => H) (fun i => i ≤ x.length ∧ x.take i = y.take i) (fun i => x.length - i) ?_ 0 ⟨Nat.zero_le _, by simp⟩
    rintro i ⟨hix, heq⟩ ih
    refine Run.walk hm Try.func13 100 ?_
    rcases Nat.lt_or_ge i x.length with hi | hi
    · have hc1 : (i : Int) < ((x.map batRow).length : Int) := by rw [hlx]; omega
      obtain ⟨p, hp⟩ : ∃ p, x[i]? = some p := ⟨_, List.getElem?_eq_getElem hi⟩
      have hri : Ab.rowAt (x.map batRow) (i : Int).toNat = batRow p := rowAt_map hp
      have hrp : (0 : Int) ≤ (i : Int) ∧ (i : Int) < ((x.map batRow).length : Int) ∧ (Ab.rowAt (x.map batRow) (i : Int).toNat).length = 4 := ⟨by omega, hc1, by rw [hri]; rfl⟩
      obtain ⟨q, hq⟩ : ∃ q, y[i]? = some q := ⟨_, List.getElem?_eq_getElem (by omega)⟩
      have hrj : Ab.rowAt (y.map batRow) (i : Int).toNat = batRow q := rowAt_map hq
      have hrq : (0 : Int) ≤ (i : Int) ∧ (i : Int) < ((y.map batRow).length : Int) ∧ (Ab.rowAt (y.map batRow) (i : Int).toNat).length = 4 := ⟨by omega, by rw [hly]; omega, by rw [hrj]; rfl⟩
      have hfp := hf p (List.mem_of_getElem? hp)
      repeat' (first
        | ((with_reducible apply Onw.mk); conv => whnf)
        | (with_reducible first | apply Br.tt | apply Br.ff | apply Br.no)
        | ((with_reducible apply Br.t); · assumption)
        | ((with_reducible apply Br.f); · assumption)
        | ((with_reducible apply Br.dt); · exact ab_known)
        | ((with_reducible apply Br.df); · exact ab_known)
        | (with_reducible first | refine Br.dec (fun hc => ?_) (fun hc => ?_) | refine Br.mk (fun hc => ?_) (fun hc => ?_))
        | (refine PreP.mk hrp ?_)
        | (refine EqP.mk hri ?_)
        | (refine PreP.mk hrq ?_)
        | (refine EqP.mk hrj ?_)
        | (refine CallOK.go (c17 _ p q hfp) (fun r2 H2 hr2 => ?_); obtain ⟨rfl, he2⟩ := hr2; rw [he2]; clear he2 H2)
        | (refine DetCall.go (c17 _ p q hfp) ?_)
        | ((with_reducible first | apply NeedRows.mk | apply NeedMap.mk | apply NeedIter.mk); · exact ab_look)
        | ((with_reducible apply NeedLen.mk); · first | assumption | rfl)
        | ((with_reducible apply NeedRow.mk); · exact ab_lookR)
        | ((with_reducible apply DrawG.mk (List.replicate 60 false)); · decide +kernel)
        | (with_reducible first | refine NewP.mk (fun id hid => ?_) | refine NilP.mk (fun e he => ?_))
        | (with_reducible first | exact trivial | exact And.intro rfl rfl)
        | ((with_reducible apply PreP.mk); · exact ab_asked)
        | refine Exists.intro _ (PreP.mk (bytesOf_lst _) ?_)
        | refine PreP.mk (lenD_lst _) ?_
        | (with_reducible first | refine PreP.mk ?_ ?_ | refine BothP.mk ?_ ?_)
        | ((with_reducible apply AncOr.anc); · decide +kernel)
        | with_reducible refine AncOr.go ?_)
      all_goals first
        | (refine Run.keep _ ?_ (ih (i + 1) ⟨by omega, ?_⟩ (by omega))
           · exact ⟨rfl, rfl, slot64 (by omega) (by omega) (by omega), trivial⟩
           · rw [List.take_add_one, List.take_add_one, heq, hp, hq, (eqB_iff p q).1 hc])
        | (refine ⟨rfl, congrArg boolD ?_⟩
           refine (hno (e := p = q) (fun e => ?_) (fun e => ?_)).symm
           · subst e; rw [hp] at hq; cases hq; rfl
           · rw [(eqB_iff p q).2 e] at hc; cases hc)
    · obtain rfl : i = x.length := by omega
      have hc1 : ¬ (x.length : Int) < ((x.map batRow).length : Int) := by rw [hlx]; omega
      repeat' (first
        | ((with_reducible apply Onw.mk); conv => whnf)
        | (with_reducible first | apply Br.tt | apply Br.ff | apply Br.no)
        | ((with_reducible apply Br.t); · assumption)
        | ((with_reducible apply Br.f); · assumption)
        | ((with_reducible apply Br.dt); · exact ab_known)
        | ((with_reducible apply Br.df); · exact ab_known)
        | (with_reducible first | refine Br.dec (fun hc => ?_) (fun hc => ?_) | refine Br.mk (fun hc => ?_) (fun hc => ?_))
        | ((with_reducible first | apply NeedRows.mk | apply NeedMap.mk | apply NeedIter.mk); · exact ab_look)
        | ((with_reducible apply NeedLen.mk); · first | assumption | rfl)
        | ((with_reducible apply NeedRow.mk); · exact ab_lookR)
        | ((with_reducible apply DrawG.mk (List.replicate 60 false)); · decide +kernel)
        | (with_reducible first | refine NewP.mk (fun id hid => ?_) | refine NilP.mk (fun e he => ?_))
        | (with_reducible first | exact trivial | exact And.intro rfl rfl)
        | ((with_reducible apply PreP.mk); · exact ab_asked)
        | refine Exists.intro _ (PreP.mk (bytesOf_lst _) ?_)
        | refine PreP.mk (lenD_lst _) ?_
        | (with_reducible first | refine PreP.mk ?_ ?_ | refine BothP.mk ?_ ?_)
        | ((with_reducible apply AncOr.anc); · decide +kernel)
        | with_reducible refine AncOr.go ?_)
      refine ⟨rfl, congrArg boolD ?_⟩
      rw [List.take_length, hxy, List.take_length] at heq
      exact ((eqBs_iff x y).2 heq).symm
  · have hc0 : ¬ ((x.map batRow).length : Int) = ((y.map batRow).length : Int) := by rw [hlx, hly]; omega
    repeat' (first
      | ((with_reducible apply Onw.mk); conv => whnf)
      | (with_reducible first | apply Br.tt | apply Br.ff | apply Br.no)
      | ((with_reducible apply Br.t); · assumption)
      | ((with_reducible apply Br.f); · assumption)
      | ((with_reducible apply Br.dt); · exact ab_known)
      | ((with_reducible apply Br.df); · exact ab_known)
      | (with_reducible first | refine Br.dec (fun hc => ?_) (fun hc => ?_) | refine Br.mk (fun hc => ?_) (fun hc => ?_))
      | ((with_reducible first | apply NeedRows.mk | apply NeedMap.mk | apply NeedIter.mk); · exact ab_look)
      | ((with_reducible apply NeedLen.mk); · first | assumption | rfl)
      | ((with_reducible apply NeedRow.mk); · exact ab_lookR)
      | ((with_reducible apply DrawG.mk (List.replicate 60 false)); · decide +kernel)
      | (with_reducible first | refine NewP.mk (fun id hid => ?_) | refine NilP.mk (fun e he => ?_))
      | (with_reducible first | exact trivial | exact And.intro rfl rfl)
      | ((with_reducible apply PreP.mk); · exact ab_asked)
      | refine Exists.intro _ (PreP.mk (bytesOf_lst _) ?_)
      | refine PreP.mk (lenD_lst _) ?_
      | (with_reducible first | refine PreP.mk ?_ ?_ | refine BothP.mk ?_ ?_)
      | ((with_reducible apply AncOr.anc); · decide +kernel)
      | with_reducible refine AncOr.go ?_)
    refine ⟨rfl, congrArg boolD ?_⟩
    exact (hno (e := x.length = y.length) (fun e => by rw [e]) hxy).symm
theorem c13 (H : Heap) (x y : List Bt) (hx : x.length ≤ 9223372036854775807) (hf : ∀ b ∈ x, FitsB b) : CallOK Try.prog 13 [.p (.lst (x.map batRow)), .p (.lst (y.map batRow))] H (fun r H' => r = boolD (eqBs x y) ∧ H' = H) := (CallOK.of_spec (q13 x y hx hf H)).mono fun _ _ h => ⟨h.2, h.1⟩
end Go.Proofs.Ytjlhkbikconboaa
