/- What functions of the receiver, of labels, rows, batches, and of the laws over them, do. Conditions: those that each theorem names. -/
import Derived.Test.YtjlhkbikconboaaQ1
set_option linter.unusedVariables false
set_option linter.unusedSimpArgs false
namespace Go.Proofs.Ytjlhkbikconboaa
open Go.Ab
set_option maxRecDepth 100000
set_option maxHeartbeats 1000000
attribute [local irreducible] Run CallOK DetCall Br PreP BothP AncOr Onw NeedRows NeedMap NeedRow NeedLen NilP NeedIter RoundP EntryP EqP OptP NewP NewSlice NewMade AppTo DrawG anc drawB
abbrev Pair := List UInt8 × List UInt8
def pairRow (p : Pair) : List P := [.str p.1, .str p.2]
theorem rowAt_map {α : Type} {l : List α} {g : α → List P} {i : Nat} {x : α} (h : l[i]? = some x) : Ab.rowAt (l.map g) (i : Int).toNat = g x := by
  simp [Ab.rowAt, h]
def okAt (l : List Pair) (k : Nat) : Bool := nameOK (l.getD k ([], [])).1 && valueOK (l.getD k ([], [])).2 && (decide (k = 0) || strLt (l.getD (k - 1) ([], [])).1 (l.getD k ([], [])).1)
def labelsOK (l : List Pair) : Bool := (List.range l.length).all (okAt l) && decide (l.length ≤ 8)
/-- Sizes that a machine can bear. -/
def Fits (l : List Pair) : Prop := l.length ≤ 9223372036854775807 ∧ ∀ p ∈ l, p.1.length ≤ 9223372036854775807 ∧ p.2.length ≤ 9223372036854775807
theorem c28 (H : Heap) (l : List UInt8) (hl : l.length ≤ 9223372036854775807) : CallOK Try.prog 28 [.p (.str l)] H (fun r H' => r = boolD (nameOK l) ∧ H' = H) := (CallOK.of_spec (q28 l hl H)).mono fun _ _ h => ⟨h.2, h.1⟩
theorem c24 (H : Heap) (l : List UInt8) (hl : l.length ≤ 9223372036854775807) : CallOK Try.prog 24 [.p (.str l)] H (fun r H' => r = boolD (nameOK l) ∧ H' = H) := (CallOK.of_spec (q24 l hl H)).mono fun _ _ h => ⟨h.2, h.1⟩
theorem c41 (H : Heap) (l : List UInt8) (hl : l.length ≤ 9223372036854775807) : CallOK Try.prog 41 [.p (.str l)] H (fun r H' => r = boolD (noNl l && decide (l.length ≤ 30)) ∧ H' = H) := (CallOK.of_spec (q41 l hl H)).mono fun _ _ h => ⟨h.2, h.1⟩
theorem c55 (H : Heap) (l : List UInt8) (hl : l.length ≤ 9223372036854775807) : CallOK Try.prog 55 [.p (.str l)] H (fun r H' => r = boolD (valueOK l) ∧ H' = H) := (CallOK.of_spec (q55 l hl H)).mono fun _ _ h => ⟨h.2, h.1⟩
theorem value_nil {l : List UInt8} (h : l = []) : valueOK l = false := by subst h; rfl
theorem value_ne {l : List UInt8} (h : ¬ l = []) : valueOK l = (noNl l && decide (l.length ≤ 30)) := by
  have h1 : 1 ≤ l.length := by cases l <;> simp_all
  unfold valueOK
  rw [Bool.and_comm]
  refine congrArg (noNl l && ·) ?_
  rw [decide_eq_decide]; omega
theorem value_facts (l : List UInt8) : (l = [] ∧ valueOK l = false) ∨ (l ≠ [] ∧ valueOK l = (noNl l && decide (l.length ≤ 30))) := by
  by_cases h : l = []
  · exact .inl ⟨h, value_nil h⟩
  · exact .inr ⟨h, value_ne h⟩
theorem getD_of {l : List Pair} {i : Nat} {p : Pair} (h : l[i]? = some p) : l.getD i ([], []) = p := by rw [List.getD_eq_getElem?_getD, h]; rfl
theorem labels_false {l : List Pair} {i : Nat} (h : i < l.length) (hf : okAt l i = false) : boolD false = boolD (labelsOK l) := by
  unfold labelsOK; rw [range_false h hf]; rfl
theorem labels_true {l : List Pair} (h : ∀ k, k < l.length → okAt l k = true) : labelsOK l = decide (l.length ≤ 8) := by
  unfold labelsOK; rw [range_true h]; rfl
theorem q25 (l : List Pair) (hl : Fits l) (H : Heap) : Ab.Spec Try.prog 25 [.p (.lst (l.map pairRow))] H (fun r H' => H' = H ∧ r = boolD (labelsOK l)) := by
  have hll : ((l.map pairRow).length : Int) = l.length := by simp
  have hl1 := hl.1
  refine Ab.Spec.walk hm Try.func25 (by kernel_rfl) 60 ?_
  repeat' (first
    | ((with_reducible apply Onw.mk); conv => whnf)
    | (with_reducible first | apply Br.tt | apply Br.ff | apply Br.no)
    | ((with_reducible apply Br.t); · assumption)
    | ((with_reducible apply Br.f); · assumption)
    | ((with_reducible apply Br.dt); · exact ab_known)
    | ((with_reducible apply Br.df); · exact ab_known)
    | (with_reducible first | refine Br.dec (fun hc => ?_) (fun hc => ?_) | refine Br.mk (fun hc => ?_) (fun hc => ?_))
    | ((with_reducible first | apply NeedRows.mk | apply NeedMap.mk | apply NeedIter.mk); · exact ab_look)
    | ((with_reducible apply NeedLen.mk); · first | assumption | rfl)
    | ((with_reducible apply NeedRow.mk); · exact ab_lookR)
    | ((with_reducible apply DrawG.mk (List.replicate 60 false)); · decide +kernel)
    | (with_reducible first | refine NewP.mk (fun id hid => ?_) | refine NilP.mk (fun e he => ?_))
    | (with_reducible first | exact trivial | exact And.intro rfl rfl)
    | ((with_reducible apply PreP.mk); · exact ab_asked)
    | refine Exists.intro _ (PreP.mk (bytesOf_lst _) ?_)
    | refine PreP.mk (lenD_lst _) ?_
    | (with_reducible first | refine PreP.mk ?_ ?_ | refine BothP.mk ?_ ?_)
    | ((with_reducible apply AncOr.anc); · decide +kernel)
    | with_reducible refine AncOr.go ?_)
  refine Run.keep [(0, .p (.lst (l.map pairRow))), (3, i64 (0 : Nat))] ⟨rfl, rfl, trivial⟩ ?_
  refine Run.loop (fun (i : Nat) => [(0, .p (.lst (l.map pairRow))), (3, i64 i)]) (fun _ => H) (fun i => i ≤ l.length ∧ ∀ k, k < i → okAt l k = true) (fun i => l.length - i) ?_ 0 ⟨Nat.zero_le _, fun k h => absurd h (Nat.not_lt_zero _)⟩
  intro i hi ih
  refine Run.walk hm Try.func25 100 ?_
  rcases Nat.lt_or_ge i l.length with hil | hil
  · have hc1 : (i : Int) < ((l.map pairRow).length : Int) := by rw [hll]; omega
    obtain ⟨p, hp⟩ : ∃ p, l[i]? = some p := ⟨l[i], by simp [hil]⟩
    have hps := hl.2 p (List.mem_of_getElem? hp)
    have hri : Ab.rowAt (l.map pairRow) (i : Int).toNat = pairRow p := rowAt_map hp
    have hrp : (0 : Int) ≤ (i : Int) ∧ (i : Int) < ((l.map pairRow).length : Int) ∧ (Ab.rowAt (l.map pairRow) (i : Int).toNat).length = 2 := ⟨by omega, hc1, by rw [hri]; rfl⟩
    have hgp := getD_of hp
    have next : okAt l i = true → ∀ k, k < i + 1 → okAt l k = true := fun ho k hk => by
      rcases Nat.lt_or_ge k i with q | q
      · exact hi.2 k q
      · obtain rfl : k = i := by omega
        exact ho
    rcases Nat.eq_zero_or_pos i with h0 | h0
    · have hi0 : ¬ (0 : Int) < (i : Int) := by omega
      have ho : okAt l i = (nameOK p.1 && valueOK p.2) := by unfold okAt; rw [hgp, decide_eq_true h0]; simp
      repeat' (first
        | ((with_reducible apply Onw.mk); conv => whnf)
        | (with_reducible first | apply Br.tt | apply Br.ff | apply Br.no)
        | ((with_reducible apply Br.t); · assumption)
        | ((with_reducible apply Br.f); · assumption)
        | ((with_reducible apply Br.dt); · exact ab_known)
        | ((with_reducible apply Br.df); · exact ab_known)
        | (with_reducible first | refine Br.dec (fun hc => ?_) (fun hc => ?_) | refine Br.mk (fun hc => ?_) (fun hc => ?_))
        | (refine PreP.mk hrp ?_)
        | (refine EqP.mk hri ?_)
        | (refine DetCall.go (c24 _ _ hps.1) ?_)
        | (refine DetCall.go (c41 _ _ hps.2) ?_)
        | ((with_reducible first | apply NeedRows.mk | apply NeedMap.mk | apply NeedIter.mk); · exact ab_look)
        | ((with_reducible apply NeedLen.mk); · first | assumption | rfl)
        | ((with_reducible apply NeedRow.mk); · exact ab_lookR)
        | ((with_reducible apply DrawG.mk (List.replicate 60 false)); · decide +kernel)
        | (with_reducible first | refine NewP.mk (fun id hid => ?_) | refine NilP.mk (fun e he => ?_))
        | (with_reducible first | exact trivial | exact And.intro rfl rfl)
        | ((with_reducible apply PreP.mk); · exact ab_asked)
        | refine Exists.intro _ (PreP.mk (bytesOf_lst _) ?_)
        | refine PreP.mk (lenD_lst _) ?_
        | (with_reducible first | refine PreP.mk ?_ ?_ | refine BothP.mk ?_ ?_)
        | ((with_reducible apply AncOr.anc); · decide +kernel)
        | with_reducible refine AncOr.go ?_)
      all_goals first
        | (refine Run.keep _ ?_ (ih (i + 1) ⟨by omega, next ?_⟩ (by omega))
           · exact ⟨rfl, slot64 (by omega) (by omega) (by omega), trivial⟩
           · clear ih next hi; rw [ho]; rcases value_facts p.2 with ⟨a, b⟩ | ⟨a, b⟩ <;> simp_all)
        | (refine ⟨rfl, labels_false hil ?_⟩
           clear ih next hi; rw [ho]; rcases value_facts p.2 with ⟨a, b⟩ | ⟨a, b⟩ <;> simp_all <;> (intro e1 e2; have e3 := hc e1; omega))
    · have hi0 : (0 : Int) < (i : Int) := by omega
      obtain ⟨q, hq⟩ : ∃ q, l[i - 1]? = some q := ⟨_, List.getElem?_eq_getElem (by omega)⟩
      have wq : IntKind.i64.wrap ((i : Int) - 1) = ((i - 1 : Nat) : Int) := by rw [wrap64 (by omega) (by omega)]; omega
      have hrj : Ab.rowAt (l.map pairRow) (IntKind.i64.wrap ((i : Int) - 1)).toNat = pairRow q := by rw [wq]; exact rowAt_map hq
      have hrq : (0 : Int) ≤ IntKind.i64.wrap ((i : Int) - 1) ∧ IntKind.i64.wrap ((i : Int) - 1) < ((l.map pairRow).length : Int) ∧ (Ab.rowAt (l.map pairRow) (IntKind.i64.wrap ((i : Int) - 1)).toNat).length = 2 := ⟨by rw [wq]; omega, by rw [wq]; omega, by rw [hrj]; rfl⟩
      have hgq := getD_of hq
      have ho : okAt l i = (nameOK p.1 && valueOK p.2 && strLt q.1 p.1) := by unfold okAt; rw [hgp, hgq, decide_eq_false (by omega)]; simp
      repeat' (first
        | ((with_reducible apply Onw.mk); conv => whnf)
        | (with_reducible first | apply Br.tt | apply Br.ff | apply Br.no)
        | ((with_reducible apply Br.t); · assumption)
        | ((with_reducible apply Br.f); · assumption)
        | ((with_reducible apply Br.dt); · exact ab_known)
        | ((with_reducible apply Br.df); · exact ab_known)
        | (with_reducible first | refine Br.dec (fun hc => ?_) (fun hc => ?_) | refine Br.mk (fun hc => ?_) (fun hc => ?_))
        | (refine PreP.mk hrp ?_)
        | (refine EqP.mk hri ?_)
        | (refine PreP.mk hrq ?_)
        | (refine EqP.mk hrj ?_)
        | (refine DetCall.go (c24 _ _ hps.1) ?_)
        | (refine DetCall.go (c41 _ _ hps.2) ?_)
        | ((with_reducible first | apply NeedRows.mk | apply NeedMap.mk | apply NeedIter.mk); · exact ab_look)
        | ((with_reducible apply NeedLen.mk); · first | assumption | rfl)
        | ((with_reducible apply NeedRow.mk); · exact ab_lookR)
        | ((with_reducible apply DrawG.mk (List.replicate 60 false)); · decide +kernel)
        | (with_reducible first | refine NewP.mk (fun id hid => ?_) | refine NilP.mk (fun e he => ?_))
        | (with_reducible first | exact trivial | exact And.intro rfl rfl)
        | ((with_reducible apply PreP.mk); · exact ab_asked)
        | refine Exists.intro _ (PreP.mk (bytesOf_lst _) ?_)
        | refine PreP.mk (lenD_lst _) ?_
        | (with_reducible first | refine PreP.mk ?_ ?_ | refine BothP.mk ?_ ?_)
        | ((with_reducible apply AncOr.anc); · decide +kernel)
        | with_reducible refine AncOr.go ?_)
      all_goals first
        | (refine Run.keep _ ?_ (ih (i + 1) ⟨by omega, next ?_⟩ (by omega))
           · exact ⟨rfl, slot64 (by omega) (by omega) (by omega), trivial⟩
           · clear ih next hi; rw [ho]; rcases value_facts p.2 with ⟨a, b⟩ | ⟨a, b⟩ <;> simp_all)
        | (refine ⟨rfl, labels_false hil ?_⟩
           clear ih next hi; rw [ho]; rcases value_facts p.2 with ⟨a, b⟩ | ⟨a, b⟩ <;> simp_all <;> (intro e1 e2; have e3 := hc e1; omega))
  · have hc1 : ¬ (i : Int) < ((l.map pairRow).length : Int) := by rw [hll]; omega
    obtain rfl : i = l.length := by omega
    repeat' (first
      | ((with_reducible apply Onw.mk); conv => whnf)
      | (with_reducible first | apply Br.tt | apply Br.ff | apply Br.no)
      | ((with_reducible apply Br.t); · assumption)
      | ((with_reducible apply Br.f); · assumption)
      | ((with_reducible apply Br.dt); · exact ab_known)
      | ((with_reducible apply Br.df); · exact ab_known)
      | (with_reducible first | refine Br.dec (fun hc => ?_) (fun hc => ?_) | refine Br.mk (fun hc => ?_) (fun hc => ?_))
      | ((with_reducible first | apply NeedRows.mk | apply NeedMap.mk | apply NeedIter.mk); · exact ab_look)
      | ((with_reducible apply NeedLen.mk); · first | assumption | rfl)
      | ((with_reducible apply NeedRow.mk); · exact ab_lookR)
      | ((with_reducible apply DrawG.mk (List.replicate 60 false)); · decide +kernel)
      | (with_reducible first | refine NewP.mk (fun id hid => ?_) | refine NilP.mk (fun e he => ?_))
      | (with_reducible first | exact trivial | exact And.intro rfl rfl)
      | ((with_reducible apply PreP.mk); · exact ab_asked)
      | refine Exists.intro _ (PreP.mk (bytesOf_lst _) ?_)
      | refine PreP.mk (lenD_lst _) ?_
      | (with_reducible first | refine PreP.mk ?_ ?_ | refine BothP.mk ?_ ?_)
      | ((with_reducible apply AncOr.anc); · decide +kernel)
      | with_reducible refine AncOr.go ?_)
    refine ⟨rfl, congrArg boolD ?_⟩
    rw [labels_true hi.2, decide_eq_decide]; omega
end Go.Proofs.Ytjlhkbikconboaa
