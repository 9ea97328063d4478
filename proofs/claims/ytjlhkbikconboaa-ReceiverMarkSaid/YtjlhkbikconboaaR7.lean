/- What functions of the receiver, of labels, rows, batches, and of the laws over them, do. Conditions: those that each theorem names. -/
import Derived.Test.YtjlhkbikconboaaR6
set_option linter.unusedVariables false
set_option linter.unusedSimpArgs false
namespace Go.Proofs.Ytjlhkbikconboaa
open Go.Ab
set_option maxRecDepth 100000
set_option maxHeartbeats 1000000
attribute [local irreducible] Run CallOK DetCall Br PreP BothP AncOr Onw NeedRows NeedMap NeedRow NeedLen NilP NeedIter RoundP EntryP EqP OptP NewP NewSlice NewMade AppTo DrawG anc drawB
theorem s5 (n low gap : Nat) (hn : n < 256) (hlow : low < 256) (hgap : gap < 256) (H : Heap) : Ab.Spec Try.prog 5 [.p (.int .u8 n), .p (.int .u8 low), .p (.int .u8 gap)] H (fun res H' => res = boolD true) := by
  generalize hk : n % 20 + 2 = k
  generalize hho : gap % k + 1 = hole
  generalize hfr : low % k + 1 = frm
  have hk1 : 2 ≤ k ∧ k ≤ 21 := by omega
  have hh1 : 1 ≤ hole ∧ hole ≤ k := by have := Nat.mod_lt gap (show 0 < k by omega); omega
  have hf1 : 1 ≤ frm ∧ frm ≤ k := by have := Nat.mod_lt low (show 0 < k by omega); omega
  have wk : IntKind.i64.wrap (IntKind.i64.wrap ((n : Int).tmod 20) + 2) = (k : Int) := by
    have e : (n : Int).tmod 20 = ((n % 20 : Nat) : Int) := (Int.ofNat_tmod n 20).symm
    have hy : n % 20 < 20 := Nat.mod_lt _ (by omega)
    rw [e]; generalize n % 20 = y at hk hy
    rw [wrap64 (n := (y : Int)) (by omega) (by omega), wrap64 (by omega) (by omega)]; omega
  have wh : IntKind.i64.wrap ((IntKind.i64.wrap (gap : Int)).tmod (IntKind.i64.wrap (IntKind.i64.wrap ((n : Int).tmod 20) + 2)) + 1) = (hole : Int) := by
    rw [wk, wrap64 (n := (gap : Int)) (by omega) (by omega)]
    have e : (gap : Int).tmod (k : Int) = ((gap % k : Nat) : Int) := (Int.ofNat_tmod gap k).symm
    rw [e, wrap64 (by omega) (by omega)]; omega
  have wf : IntKind.i64.wrap ((IntKind.i64.wrap (low : Int)).tmod (k : Int) + 1) = (frm : Int) := by
    rw [wrap64 (n := (low : Int)) (by omega) (by omega)]
    have e : (low : Int).tmod (k : Int) = ((low % k : Nat) : Int) := (Int.ofNat_tmod low k).symm
    rw [e, wrap64 (by omega) (by omega)]; omega
  have whm : IntKind.i64.wrap ((hole : Int) - 1) = hole - 1 := wrap64 (by omega) (by omega)
  have wkp : IntKind.i64.wrap ((k : Int) + 1) = k + 1 := wrap64 (by omega) (by omega)
  refine Ab.Spec.walk hm Try.func5 (by kernel_rfl) 100 ?_
  repeat' (first
    | ((with_reducible apply Onw.mk); conv => whnf)
    | (with_reducible first | apply Br.tt | apply Br.ff | apply Br.no)
    | ((with_reducible apply Br.t); · assumption)
    | ((with_reducible apply Br.f); · assumption)
    | ((with_reducible apply Br.dt); · exact ab_known)
    | ((with_reducible apply Br.df); · exact ab_known)
    | (with_reducible first | refine Br.dec (fun hc => ?_) (fun hc => ?_) | refine Br.mk (fun hc => ?_) (fun hc => ?_))
    | ((with_reducible first | apply NeedRows.mk | apply NeedMap.mk | apply NeedIter.mk); · exact ab_look)
    | ((with_reducible apply NeedLen.mk); · first | assumption | rfl)
    | ((with_reducible apply NeedRow.mk); · exact ab_lookR)
    | ((with_reducible apply DrawG.mk (List.replicate 60 false)); · decide +kernel)
    | (with_reducible first | refine NewP.mk (fun id hid => ?_) | refine NilP.mk (fun e he => ?_))
    | (with_reducible first | exact trivial | exact And.intro rfl rfl)
    | ((with_reducible apply PreP.mk); · exact ab_asked)
    | refine Exists.intro _ (PreP.mk (bytesOf_lst _) ?_)
    | refine PreP.mk (lenD_lst _) ?_
    | (with_reducible first | refine PreP.mk ?_ ?_ | refine BothP.mk ?_ ?_)
    | ((with_reducible apply AncOr.anc); · decide +kernel)
    | with_reducible refine AncOr.go ?_)
  refine CallOK.go (c7 _) (fun r2 H2 hr => ?_)
  obtain ⟨rfl, he2⟩ := hr
  rw [he2]; clear he2 H2
  repeat' (first
    | ((with_reducible apply Onw.mk); conv => whnf)
    | (with_reducible first | apply Br.tt | apply Br.ff | apply Br.no)
    | ((with_reducible apply Br.t); · assumption)
    | ((with_reducible apply Br.f); · assumption)
    | ((with_reducible apply Br.dt); · exact ab_known)
    | ((with_reducible apply Br.df); · exact ab_known)
    | (with_reducible first | refine Br.dec (fun hc => ?_) (fun hc => ?_) | refine Br.mk (fun hc => ?_) (fun hc => ?_))
    | ((with_reducible first | apply NeedRows.mk | apply NeedMap.mk | apply NeedIter.mk); · exact ab_look)
    | ((with_reducible apply NeedLen.mk); · first | assumption | rfl)
    | ((with_reducible apply NeedRow.mk); · exact ab_lookR)
    | ((with_reducible apply DrawG.mk (List.replicate 60 false)); · decide +kernel)
    | (with_reducible first | refine NewP.mk (fun id hid => ?_) | refine NilP.mk (fun e he => ?_))
    | (with_reducible first | exact trivial | exact And.intro rfl rfl)
    | ((with_reducible apply PreP.mk); · exact ab_asked)
    | refine Exists.intro _ (PreP.mk (bytesOf_lst _) ?_)
    | refine PreP.mk (lenD_lst _) ?_
    | (with_reducible first | refine PreP.mk ?_ ?_ | refine BothP.mk ?_ ?_)
    | ((with_reducible apply AncOr.anc); · decide +kernel)
    | with_reducible refine AncOr.go ?_)
  refine CallOK.go (CallOK.of_spec (s8 _)) (fun r1 H1 hr => ?_)
  obtain ⟨r, mid, rfl, h1, hge1, hge2, x1, hx1⟩ := hr
  have hnz : IntKind.i64.wrap (IntKind.i64.wrap ((n : Int).tmod 20) + 2) ≠ 0 := by rw [wk]; omega
  repeat' (first
    | ((with_reducible apply Onw.mk); conv => whnf)
    | (with_reducible first | apply Br.tt | apply Br.ff | apply Br.no)
    | ((with_reducible apply Br.t); · assumption)
    | ((with_reducible apply Br.f); · assumption)
    | ((with_reducible apply Br.dt); · exact ab_known)
    | ((with_reducible apply Br.df); · exact ab_known)
    | (with_reducible first | refine Br.dec (fun hc => ?_) (fun hc => ?_) | refine Br.mk (fun hc => ?_) (fun hc => ?_))
    | (refine PreP.mk hnz ?_)
    | ((with_reducible first | apply NeedRows.mk | apply NeedMap.mk | apply NeedIter.mk); · exact ab_look)
    | ((with_reducible apply NeedLen.mk); · first | assumption | rfl)
    | ((with_reducible apply NeedRow.mk); · exact ab_lookR)
    | ((with_reducible apply DrawG.mk (List.replicate 60 false)); · decide +kernel)
    | (with_reducible first | refine NewP.mk (fun id hid => ?_) | refine NilP.mk (fun e he => ?_))
    | (with_reducible first | exact trivial | exact And.intro rfl rfl)
    | ((with_reducible apply PreP.mk); · exact ab_asked)
    | refine Exists.intro _ (PreP.mk (bytesOf_lst _) ?_)
    | refine PreP.mk (lenD_lst _) ?_
    | (with_reducible first | refine PreP.mk ?_ ?_ | refine BothP.mk ?_ ?_)
    | ((with_reducible apply AncOr.anc); · decide +kernel)
    | with_reducible refine AncOr.go ?_)
  refine Run.keep [(1, .p (.int .u8 low)), (7, .ptr r 0 0), (8, i64 k), (9, i64 hole), (10, i64 (1 : Nat))] ⟨rfl, rfl, congrArg (fun x => some (i64 x)) wk, congrArg (fun x => some (i64 x)) wh, rfl, trivial⟩ ?_
  refine Run.rounds (fun (i : Nat) T H2 => ∃ (l : List (Int × Int)) (bs : List Nat) (ck : Nat) (low0 : Int), T = [(1, .p (.int .u8 low)), (7, .ptr r 0 0), (8, i64 k), (9, i64 hole), (10, i64 i)] ∧ 1 ≤ i ∧ i ≤ k + 1 ∧
    RcAt H2 r mid low0 l bs ck ∧ (low0 = 0 ∨ low0 = 1) ∧ ∀ j : Int, j ∈ l.map (·.1) ↔ 1 ≤ j ∧ j < i ∧ j ≠ hole) (fun i => k + 1 - i) ?_ (x := 1)
    ⟨[], [], 0, 0, rfl, Nat.le_refl _, by omega, h1, .inl rfl, fun j => by simp; omega⟩
  rintro i T H2 ⟨l, bs, ck, low0, rfl, hi1, hi2, h2, hlow0, hmem⟩ ih
  have hi5 : IntKind.i64.wrap ((i : Int) + 1) = (i + 1 : Nat) := by rw [wrap64 (by omega) (by omega)]; omega
  have hl0 : (if low0 < 1 then 1 else low0) = 1 := by split <;> omega
  have hks : ∀ j ∈ l.map (·.1), j ≤ 1000 := fun j hj => by have := (hmem j).1 hj; omega
  refine Run.walk hm Try.func5 100 ?_
  rcases Nat.lt_or_ge k i with hik | hik
  · have hc1 : ¬ (i : Int) ≤ (k : Int) := by omega
    obtain rfl : i = k + 1 := by omega
    have hl1 : (if low0 < (frm : Int) then (frm : Int) else low0) = frm := by split <;> omega
    repeat' (first
      | ((with_reducible apply Onw.mk); conv => whnf)
      | (with_reducible first | apply Br.tt | apply Br.ff | apply Br.no)
      | ((with_reducible apply Br.t); · assumption)
      | ((with_reducible apply Br.f); · assumption)
      | ((with_reducible apply Br.dt); · exact ab_known)
      | ((with_reducible apply Br.df); · exact ab_known)
      | (with_reducible first | refine Br.dec (fun hc => ?_) (fun hc => ?_) | refine Br.mk (fun hc => ?_) (fun hc => ?_))
      | ((with_reducible first | apply NeedRows.mk | apply NeedMap.mk | apply NeedIter.mk); · exact ab_look)
      | ((with_reducible apply NeedLen.mk); · first | assumption | rfl)
      | ((with_reducible apply NeedRow.mk); · exact ab_lookR)
      | ((with_reducible apply DrawG.mk (List.replicate 60 false)); · decide +kernel)
      | (with_reducible first | refine NewP.mk (fun id hid => ?_) | refine NilP.mk (fun e he => ?_))
      | (with_reducible first | exact trivial | exact And.intro rfl rfl)
      | ((with_reducible apply PreP.mk); · exact ab_asked)
      | refine Exists.intro _ (PreP.mk (bytesOf_lst _) ?_)
      | refine PreP.mk (lenD_lst _) ?_
      | (with_reducible first | refine PreP.mk ?_ ?_ | refine BothP.mk ?_ ?_)
      | ((with_reducible apply AncOr.anc); · decide +kernel)
      | with_reducible refine AncOr.go ?_)
    rw [wkp, wf]
    refine CallOK.go (c9new h2 (k + 1) 0 _ frm frm (.inl rfl) (by omega) (by omega) (by omega) (by omega) (by omega) (by omega) (by omega) (by omega) hks (by rw [hmem]; omega) hl1) (fun r2 H3 hr => ?_)
    obtain ⟨m, bs3, ck3, rfl, hm3, h3, hg3⟩ := hr
    have hmem3 : ∀ j : Int, j ∈ (l ++ [((k : Int) + 1, (0 : Int))]).map (·.1) ↔ 1 ≤ j ∧ j < (k + 2 : Nat) ∧ j ≠ hole := fun j => by
      rw [List.map_append, List.mem_append, hmem j]; simp; omega
    rcases Nat.lt_or_ge hole frm with hlt | hlt
    · have hc3 : (hole : Int) < (frm : Int) := by omega
      obtain rfl : m = k + 1 := hm3.eq (mark_of _ (by omega) (fun j h1 h2 => by rw [hmem3]; omega) (by rw [hmem3]; omega))
      repeat' (first
        | ((with_reducible apply Onw.mk); conv => whnf)
        | (with_reducible first | apply Br.tt | apply Br.ff | apply Br.no)
        | ((with_reducible apply Br.t); · assumption)
        | ((with_reducible apply Br.f); · assumption)
        | ((with_reducible apply Br.dt); · exact ab_known)
        | ((with_reducible apply Br.df); · exact ab_known)
        | (with_reducible first | refine Br.dec (fun hc => ?_) (fun hc => ?_) | refine Br.mk (fun hc => ?_) (fun hc => ?_))
        | ((with_reducible first | apply NeedRows.mk | apply NeedMap.mk | apply NeedIter.mk); · exact ab_look)
        | ((with_reducible apply NeedLen.mk); · first | assumption | rfl)
        | ((with_reducible apply NeedRow.mk); · exact ab_lookR)
        | ((with_reducible apply DrawG.mk (List.replicate 60 false)); · decide +kernel)
        | (with_reducible first | refine NewP.mk (fun id hid => ?_) | refine NilP.mk (fun e he => ?_))
        | (with_reducible first | exact trivial | exact And.intro rfl rfl)
        | ((with_reducible apply PreP.mk); · exact ab_asked)
        | refine Exists.intro _ (PreP.mk (bytesOf_lst _) ?_)
        | refine PreP.mk (lenD_lst _) ?_
        | (with_reducible first | refine PreP.mk ?_ ?_ | refine BothP.mk ?_ ?_)
        | ((with_reducible apply AncOr.anc); · decide +kernel)
        | with_reducible refine AncOr.go ?_)
      all_goals first
        | (exfalso; omega)
        | exact congrArg boolD (decide_eq_true wkp.symm)
        | exact congrArg boolD (decide_eq_true whm.symm)
    · have hc3 : ¬ (hole : Int) < (frm : Int) := by omega
      obtain rfl : m = hole - 1 := hm3.eq (mark_of _ (by omega) (fun j h1 h2 => by rw [hmem3]; omega) (by rw [hmem3]; omega))
      repeat' (first
        | ((with_reducible apply Onw.mk); conv => whnf)
        | (with_reducible first | apply Br.tt | apply Br.ff | apply Br.no)
        | ((with_reducible apply Br.t); · assumption)
        | ((with_reducible apply Br.f); · assumption)
        | ((with_reducible apply Br.dt); · exact ab_known)
        | ((with_reducible apply Br.df); · exact ab_known)
        | (with_reducible first | refine Br.dec (fun hc => ?_) (fun hc => ?_) | refine Br.mk (fun hc => ?_) (fun hc => ?_))
        | ((with_reducible first | apply NeedRows.mk | apply NeedMap.mk | apply NeedIter.mk); · exact ab_look)
        | ((with_reducible apply NeedLen.mk); · first | assumption | rfl)
        | ((with_reducible apply NeedRow.mk); · exact ab_lookR)
        | ((with_reducible apply DrawG.mk (List.replicate 60 false)); · decide +kernel)
        | (with_reducible first | refine NewP.mk (fun id hid => ?_) | refine NilP.mk (fun e he => ?_))
        | (with_reducible first | exact trivial | exact And.intro rfl rfl)
        | ((with_reducible apply PreP.mk); · exact ab_asked)
        | refine Exists.intro _ (PreP.mk (bytesOf_lst _) ?_)
        | refine PreP.mk (lenD_lst _) ?_
        | (with_reducible first | refine PreP.mk ?_ ?_ | refine BothP.mk ?_ ?_)
        | ((with_reducible apply AncOr.anc); · decide +kernel)
        | with_reducible refine AncOr.go ?_)
      all_goals first
        | (exfalso; omega)
        | exact congrArg boolD (decide_eq_true whm.symm)
  · have hc1 : (i : Int) ≤ (k : Int) := by omega
    by_cases hih : i = hole
    · have hc2 : (i : Int) = (hole : Int) := by omega
      repeat' (first
        | ((with_reducible apply Onw.mk); conv => whnf)
        | (with_reducible first | apply Br.tt | apply Br.ff | apply Br.no)
        | ((with_reducible apply Br.t); · assumption)
        | ((with_reducible apply Br.f); · assumption)
        | ((with_reducible apply Br.dt); · exact ab_known)
        | ((with_reducible apply Br.df); · exact ab_known)
        | (with_reducible first | refine Br.dec (fun hc => ?_) (fun hc => ?_) | refine Br.mk (fun hc => ?_) (fun hc => ?_))
        | ((with_reducible first | apply NeedRows.mk | apply NeedMap.mk | apply NeedIter.mk); · exact ab_look)
        | ((with_reducible apply NeedLen.mk); · first | assumption | rfl)
        | ((with_reducible apply NeedRow.mk); · exact ab_lookR)
        | ((with_reducible apply DrawG.mk (List.replicate 60 false)); · decide +kernel)
        | (with_reducible first | refine NewP.mk (fun id hid => ?_) | refine NilP.mk (fun e he => ?_))
        | (with_reducible first | exact trivial | exact And.intro rfl rfl)
        | ((with_reducible apply PreP.mk); · exact ab_asked)
        | refine Exists.intro _ (PreP.mk (bytesOf_lst _) ?_)
        | refine PreP.mk (lenD_lst _) ?_
        | (with_reducible first | refine PreP.mk ?_ ?_ | refine BothP.mk ?_ ?_)
        | ((with_reducible apply AncOr.anc); · decide +kernel)
        | with_reducible refine AncOr.go ?_)
      refine Run.keep _ ?_ (ih (i + 1) _ _ (by omega) ⟨l, bs, ck, low0, rfl, by omega, by omega, h2, hlow0, fun j => ?_⟩)
      · exact ⟨rfl, rfl, rfl, rfl, congrArg (fun x => some (i64 x)) hi5, trivial⟩
      · rw [hmem j]; omega
    · have hc2 : ¬ (i : Int) = (hole : Int) := by omega
      repeat' (first
        | ((with_reducible apply Onw.mk); conv => whnf)
        | (with_reducible first | apply Br.tt | apply Br.ff | apply Br.no)
        | ((with_reducible apply Br.t); · assumption)
        | ((with_reducible apply Br.f); · assumption)
        | ((with_reducible apply Br.dt); · exact ab_known)
        | ((with_reducible apply Br.df); · exact ab_known)
        | (with_reducible first | refine Br.dec (fun hc => ?_) (fun hc => ?_) | refine Br.mk (fun hc => ?_) (fun hc => ?_))
        | ((with_reducible first | apply NeedRows.mk | apply NeedMap.mk | apply NeedIter.mk); · exact ab_look)
        | ((with_reducible apply NeedLen.mk); · first | assumption | rfl)
        | ((with_reducible apply NeedRow.mk); · exact ab_lookR)
        | ((with_reducible apply DrawG.mk (List.replicate 60 false)); · decide +kernel)
        | (with_reducible first | refine NewP.mk (fun id hid => ?_) | refine NilP.mk (fun e he => ?_))
        | (with_reducible first | exact trivial | exact And.intro rfl rfl)
        | ((with_reducible apply PreP.mk); · exact ab_asked)
        | refine Exists.intro _ (PreP.mk (bytesOf_lst _) ?_)
        | refine PreP.mk (lenD_lst _) ?_
        | (with_reducible first | refine PreP.mk ?_ ?_ | refine BothP.mk ?_ ?_)
        | ((with_reducible apply AncOr.anc); · decide +kernel)
        | with_reducible refine AncOr.go ?_)
      refine CallOK.go (c9new h2 i 0 _ 1 1 (.inl rfl) (by omega) (by omega) (by omega) (by omega) (by omega) (by omega) (by omega) (by omega) hks (by rw [hmem]; omega) hl0) (fun r2 H3 hr => ?_)
      obtain ⟨m, bs3, ck3, rfl, hm3, h3, hg3⟩ := hr
      have hmem3 : ∀ j : Int, j ∈ (l ++ [((i : Int), (0 : Int))]).map (·.1) ↔ 1 ≤ j ∧ j < (i + 1 : Nat) ∧ j ≠ hole := fun j => by
        rw [List.map_append, List.mem_append, hmem j]; simp; omega
      rcases Nat.lt_or_ge hole i with hlt | hlt
      · have hc3 : (hole : Int) < (i : Int) := by omega
        obtain rfl : m = hole - 1 := hm3.eq (mark_of _ (by omega) (fun j h1 h2 => by rw [hmem3]; omega) (by rw [hmem3]; omega))
        repeat' (first
          | ((with_reducible apply Onw.mk); conv => whnf)
          | (with_reducible first | apply Br.tt | apply Br.ff | apply Br.no)
          | ((with_reducible apply Br.t); · assumption)
          | ((with_reducible apply Br.f); · assumption)
          | ((with_reducible apply Br.dt); · exact ab_known)
          | ((with_reducible apply Br.df); · exact ab_known)
          | (with_reducible first | refine Br.dec (fun hc => ?_) (fun hc => ?_) | refine Br.mk (fun hc => ?_) (fun hc => ?_))
          | ((with_reducible first | apply NeedRows.mk | apply NeedMap.mk | apply NeedIter.mk); · exact ab_look)
          | ((with_reducible apply NeedLen.mk); · first | assumption | rfl)
          | ((with_reducible apply NeedRow.mk); · exact ab_lookR)
          | ((with_reducible apply DrawG.mk (List.replicate 60 false)); · decide +kernel)
          | (with_reducible first | refine NewP.mk (fun id hid => ?_) | refine NilP.mk (fun e he => ?_))
          | (with_reducible first | exact trivial | exact And.intro rfl rfl)
          | ((with_reducible apply PreP.mk); · exact ab_asked)
          | refine Exists.intro _ (PreP.mk (bytesOf_lst _) ?_)
          | refine PreP.mk (lenD_lst _) ?_
          | (with_reducible first | refine PreP.mk ?_ ?_ | refine BothP.mk ?_ ?_)
          | ((with_reducible apply AncOr.anc); · decide +kernel)
          | with_reducible refine AncOr.go ?_)
        all_goals first
          | (refine Run.keep _ ?_ (ih (i + 1) _ _ (by omega) ⟨_, bs3, ck3, 1, rfl, by omega, by omega, h3, .inr rfl, hmem3⟩)
             exact ⟨rfl, rfl, rfl, rfl, congrArg (fun x => some (i64 x)) hi5, trivial⟩)
          | (exfalso; omega)
      · have hc3 : ¬ (hole : Int) < (i : Int) := by omega
        obtain rfl : m = i := hm3.eq (mark_of _ (by omega) (fun j h1 h2 => by rw [hmem3]; omega) (by rw [hmem3]; omega))
        repeat' (first
          | ((with_reducible apply Onw.mk); conv => whnf)
          | (with_reducible first | apply Br.tt | apply Br.ff | apply Br.no)
          | ((with_reducible apply Br.t); · assumption)
          | ((with_reducible apply Br.f); · assumption)
          | ((with_reducible apply Br.dt); · exact ab_known)
          | ((with_reducible apply Br.df); · exact ab_known)
          | (with_reducible first | refine Br.dec (fun hc => ?_) (fun hc => ?_) | refine Br.mk (fun hc => ?_) (fun hc => ?_))
          | ((with_reducible first | apply NeedRows.mk | apply NeedMap.mk | apply NeedIter.mk); · exact ab_look)
          | ((with_reducible apply NeedLen.mk); · first | assumption | rfl)
          | ((with_reducible apply NeedRow.mk); · exact ab_lookR)
          | ((with_reducible apply DrawG.mk (List.replicate 60 false)); · decide +kernel)
          | (with_reducible first | refine NewP.mk (fun id hid => ?_) | refine NilP.mk (fun e he => ?_))
          | (with_reducible first | exact trivial | exact And.intro rfl rfl)
          | ((with_reducible apply PreP.mk); · exact ab_asked)
          | refine Exists.intro _ (PreP.mk (bytesOf_lst _) ?_)
          | refine PreP.mk (lenD_lst _) ?_
          | (with_reducible first | refine PreP.mk ?_ ?_ | refine BothP.mk ?_ ?_)
          | ((with_reducible apply AncOr.anc); · decide +kernel)
          | with_reducible refine AncOr.go ?_)
        all_goals first
          | (refine Run.keep _ ?_ (ih (i + 1) _ _ (by omega) ⟨_, bs3, ck3, 1, rfl, by omega, by omega, h3, .inr rfl, hmem3⟩)
             exact ⟨rfl, rfl, rfl, rfl, congrArg (fun x => some (i64 x)) hi5, trivial⟩)
          | (exfalso; omega)
end Go.Proofs.Ytjlhkbikconboaa
