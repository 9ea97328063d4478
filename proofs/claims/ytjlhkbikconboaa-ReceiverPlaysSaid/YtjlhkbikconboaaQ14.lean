/- What functions of the receiver, of labels, rows, batches, and of the laws over them, do. Conditions: those that each theorem names. -/
import Derived.Test.YtjlhkbikconboaaQ13
set_option linter.unusedVariables false
set_option linter.unusedSimpArgs false
namespace Go.Proofs.Ytjlhkbikconboaa
open Go.Ab
set_option maxRecDepth 100000
set_option maxHeartbeats 1000000
attribute [local irreducible] Run CallOK DetCall Br PreP BothP AncOr Onw NeedRows NeedMap NeedRow NeedLen NilP NeedIter RoundP EntryP EqP OptP NewP NewSlice NewMade AppTo DrawG anc drawB
theorem s11gz (H : Heap) (r mid : Nat) (l : List Bt) (bs : List Nat) (ck : Nat) (h : RcG H r mid 0 l bs ck) : Ab.Spec Try.prog 11 [.ptr r 0 0] H (fun r H' => r = i64 0 ∧ ∃ x, H' = H ++ x) := by
  have h1 := h.row
  refine Ab.Spec.walk hm Try.func11 (by kernel_rfl) 100 ?_
  repeat' (first
    | ((with_reducible apply Onw.mk); conv => whnf)
    | (with_reducible first | apply Br.tt | apply Br.ff | apply Br.no)
    | ((with_reducible apply Br.t); · assumption)
    | ((with_reducible apply Br.f); · assumption)
    | ((with_reducible apply Br.dt); · exact ab_known)
    | ((with_reducible apply Br.df); · exact ab_known)
    | (with_reducible first | refine Br.dec (fun hc => ?_) (fun hc => ?_) | refine Br.mk (fun hc => ?_) (fun hc => ?_))
    | ((with_reducible first | apply NeedRows.mk | apply NeedMap.mk | apply NeedIter.mk); · exact ab_look)
    | ((with_reducible apply NeedLen.mk); · first | assumption | rfl)
    | ((with_reducible apply NeedRow.mk); · exact ab_lookR)
    | ((with_reducible apply DrawG.mk (List.replicate 60 false)); · decide +kernel)
    | (with_reducible first | refine NewP.mk (fun id hid => ?_) | refine NilP.mk (fun e he => ?_))
    | (with_reducible first | exact trivial | exact And.intro rfl rfl)
    | ((with_reducible apply PreP.mk); · exact ab_asked)
    | refine Exists.intro _ (PreP.mk (bytesOf_lst _) ?_)
    | refine PreP.mk (lenD_lst _) ?_
    | (with_reducible first | refine PreP.mk ?_ ?_ | refine BothP.mk ?_ ?_)
    | ((with_reducible apply AncOr.anc); · decide +kernel)
    | with_reducible refine AncOr.go ?_)
  exact ⟨rfl, [], by simp⟩
theorem s11g (H : Heap) (r mid : Nat) (low : Int) (l : List Bt) (bs : List Nat) (ck : Nat) (h : RcG H r mid low l bs ck) (hlow : 1 ≤ low) (hlow2 : low ≤ 9223372036854775807) :
    Ab.Spec Try.prog 11 [.ptr r 0 0] H (fun r H' => (∃ m, r = i64 m ∧ IsMark (l.map (·.seq)) low m) ∧ ∃ x, H' = H ++ x) := by
  have h1 := h.row
  have h2 := h.map
  have hkp : ∀ k ∈ l.map (·.seq), 0 < k ∧ k ≤ 9223372036854775807 := fun k hk => h.kpos hk
  have hl0 : ¬ low = 0 := by omega
  have hpk : ∀ n : Int, keysOk (.int .i64) (l.map entB) ∧ keyOk (.int .i64) (.int .i64 n) = true := fun n => ⟨keysOk_entB l, rfl⟩
  have hwl : IntKind.i64.wrap (low - 1) = low - 1 := wrap64 (by omega) (by omega)
  have hw0 : IntKind.i64.wrap (IntKind.i64.wrap (low - 1) + 1) = low - 1 + 1 := by rw [hwl, wrap64 (by omega) (by omega)]
  refine Ab.Spec.walk hm Try.func11 (by kernel_rfl) 100 ?_
  generalize hkeys : l.map (·.seq) = keys at *
  by_cases hin : IntKind.i64.wrap (IntKind.i64.wrap (low - 1) + 1) ∈ keys
  · rw [← hkeys] at hin
    obtain ⟨b, hb, hbs, hlk⟩ := lookB_in hin
    rw [hkeys] at hin
    repeat' (first
      | ((with_reducible apply Onw.mk); conv => whnf)
      | (with_reducible first | apply Br.tt | apply Br.ff | apply Br.no)
      | ((with_reducible apply Br.t); · assumption)
      | ((with_reducible apply Br.f); · assumption)
      | ((with_reducible apply Br.dt); · exact ab_known)
      | ((with_reducible apply Br.df); · exact ab_known)
      | (with_reducible first | refine Br.dec (fun hc => ?_) (fun hc => ?_) | refine Br.mk (fun hc => ?_) (fun hc => ?_))
      | (refine PreP.mk (hpk _) ?_)
      | (refine OptP.some hlk ?_)
      | ((with_reducible first | apply NeedRows.mk | apply NeedMap.mk | apply NeedIter.mk); · exact ab_look)
      | ((with_reducible apply NeedLen.mk); · first | assumption | rfl)
      | ((with_reducible apply NeedRow.mk); · exact ab_lookR)
      | ((with_reducible apply DrawG.mk (List.replicate 60 false)); · decide +kernel)
      | (with_reducible first | refine NewP.mk (fun id hid => ?_) | refine NilP.mk (fun e he => ?_))
      | (with_reducible first | exact trivial | exact And.intro rfl rfl)
      | ((with_reducible apply PreP.mk); · exact ab_asked)
      | refine Exists.intro _ (PreP.mk (bytesOf_lst _) ?_)
      | refine PreP.mk (lenD_lst _) ?_
      | (with_reducible first | refine PreP.mk ?_ ?_ | refine BothP.mk ?_ ?_)
      | ((with_reducible apply AncOr.anc); · decide +kernel)
      | with_reducible refine AncOr.go ?_)
    refine Run.keep [(0, .ptr r 0 0), (3, i64 (low - 1)), (4, .ptr id 0 0), (5, boolD (decide (low - 1 + 1 ∈ keys)))] ⟨rfl, congrArg (fun x => some (i64 x)) hwl, rfl, congrArg (fun b => some (boolD b)) (decide_eq_true (by rw [← hw0]; exact hin)).symm, trivial⟩ ?_
    refine Run.rounds (fun (n : Int) T H2 => ∃ (id4 : Nat) (s t : Int) (g : List UInt8) (e : P), (e = .nil ∨ ∃ X, e = .lst X) ∧ T = [(0, .ptr r 0 0), (3, i64 n), (4, .ptr id4 0 0), (5, boolD (decide (n + 1 ∈ keys)))] ∧
      nth H2 id4 = some (.rows [[i64 s, i64 t, .p (.str g), .p e]]) ∧ (∃ x, H2 = H ++ x) ∧ (∀ i, low ≤ i → i ≤ n → i ∈ keys) ∧ low - 1 ≤ n ∧ n ≤ 9223372036854775807) (fun n => (keys.filter fun k => decide (n < k)).length) ?_ (x := low - 1)
      ⟨_, _, _, _, _, .inr ⟨_, rfl⟩, rfl, nth_setN_same (nth_new hid), ⟨_, setN_last hid⟩, fun i h1 h2 => by omega, Int.le_refl _, by omega⟩
    rintro n T H2 ⟨id4, s4, t4, g4, e4, he4, rfl, hrow4, ⟨x, rfl⟩, hall, hn0, hn1⟩ ih
    have h1' := nth_app (l' := x) h1
    have h2' := nth_app (l' := x) h2
    have hltr := nth_lt h1'
    have hltm := nth_lt h2'
    by_cases hn2 : n + 1 ∈ keys
    · rw [decide_eq_true hn2]
      have hk1 := hkp _ hn2
      have hw1 : IntKind.i64.wrap (n + 1) = n + 1 := wrap64 (by omega) (by omega)
      have hall' : ∀ i, low ≤ i → i ≤ n + 1 → i ∈ keys := fun i h1 h2 => by
        rcases Int.lt_or_le n i with q | q
        · obtain rfl : i = n + 1 := by omega
          exact hn2
        · exact hall i h1 q
      rcases he4 with rfl | ⟨X, rfl⟩
      · skip
        by_cases hn3 : IntKind.i64.wrap (IntKind.i64.wrap (n + 1) + 1) ∈ keys
        · obtain ⟨b, hb, hbs, hlk⟩ := lookB_in (by rw [hkeys]; exact hn3)
          refine Run.walk hm Try.func11 100 ?_
          repeat' (first
            | ((with_reducible apply Onw.mk); conv => whnf)
            | (with_reducible first | apply Br.tt | apply Br.ff | apply Br.no)
            | ((with_reducible apply Br.t); · assumption)
            | ((with_reducible apply Br.f); · assumption)
            | ((with_reducible apply Br.dt); · exact ab_known)
            | ((with_reducible apply Br.df); · exact ab_known)
            | (with_reducible first | refine Br.dec (fun hc => ?_) (fun hc => ?_) | refine Br.mk (fun hc => ?_) (fun hc => ?_))
            | (refine PreP.mk (hpk _) ?_)
            | (refine OptP.some hlk ?_)
            | ((with_reducible first | apply NeedRows.mk | apply NeedMap.mk | apply NeedIter.mk); · exact ab_look)
            | ((with_reducible apply NeedLen.mk); · first | assumption | rfl)
            | ((with_reducible apply NeedRow.mk); · exact ab_lookR)
            | ((with_reducible apply DrawG.mk (List.replicate 60 false)); · decide +kernel)
            | (with_reducible first | refine NewP.mk (fun id hid => ?_) | refine NilP.mk (fun e he => ?_))
            | (with_reducible first | exact trivial | exact And.intro rfl rfl)
            | ((with_reducible apply PreP.mk); · exact ab_asked)
            | refine Exists.intro _ (PreP.mk (bytesOf_lst _) ?_)
            | refine PreP.mk (lenD_lst _) ?_
            | (with_reducible first | refine PreP.mk ?_ ?_ | refine BothP.mk ?_ ?_)
            | ((with_reducible apply AncOr.anc); · decide +kernel)
            | with_reducible refine AncOr.go ?_)
          refine Run.keep _ ?_ (ih (n + 1) _ _ (filter_less hn2) ⟨id, s4, t4, g4, _, .inl rfl, rfl, nth_setN_same (nth_new hid), ⟨_, (setN_last hid).trans (List.append_assoc _ _ _)⟩, hall', by omega, by omega⟩)
          exact ⟨rfl, congrArg (fun x => some (i64 x)) hw1, rfl, congrArg (fun b => some (boolD b)) (decide_eq_true ((wrap_in hkp (by omega) (by omega)).1 (by rw [← hw1]; exact hn3))).symm, trivial⟩
        · have hlk := lookB_out (by rw [hkeys]; exact hn3)
          refine Run.walk hm Try.func11 100 ?_
          repeat' (first
            | ((with_reducible apply Onw.mk); conv => whnf)
            | (with_reducible first | apply Br.tt | apply Br.ff | apply Br.no)
            | ((with_reducible apply Br.t); · assumption)
            | ((with_reducible apply Br.f); · assumption)
            | ((with_reducible apply Br.dt); · exact ab_known)
            | ((with_reducible apply Br.df); · exact ab_known)
            | (with_reducible first | refine Br.dec (fun hc => ?_) (fun hc => ?_) | refine Br.mk (fun hc => ?_) (fun hc => ?_))
            | (refine PreP.mk (hpk _) ?_)
            | (refine OptP.none hlk ?_)
            | ((with_reducible first | apply NeedRows.mk | apply NeedMap.mk | apply NeedIter.mk); · exact ab_look)
            | ((with_reducible apply NeedLen.mk); · first | assumption | rfl)
            | ((with_reducible apply NeedRow.mk); · exact ab_lookR)
            | ((with_reducible apply DrawG.mk (List.replicate 60 false)); · decide +kernel)
            | (with_reducible first | refine NewP.mk (fun id hid => ?_) | refine NilP.mk (fun e he => ?_))
            | (with_reducible first | exact trivial | exact And.intro rfl rfl)
            | ((with_reducible apply PreP.mk); · exact ab_asked)
            | refine Exists.intro _ (PreP.mk (bytesOf_lst _) ?_)
            | refine PreP.mk (lenD_lst _) ?_
            | (with_reducible first | refine PreP.mk ?_ ?_ | refine BothP.mk ?_ ?_)
            | ((with_reducible apply AncOr.anc); · decide +kernel)
            | with_reducible refine AncOr.go ?_)
          refine Run.keep _ ?_ (ih (n + 1) _ _ (filter_less hn2) ⟨id, s4, t4, g4, _, .inl rfl, rfl, nth_setN_same (nth_new hid), ⟨_, (setN_last hid).trans (List.append_assoc _ _ _)⟩, hall', by omega, by omega⟩)
          exact ⟨rfl, congrArg (fun x => some (i64 x)) hw1, rfl, congrArg (fun b => some (boolD b)) (decide_eq_false (fun q => hn3 (by rw [hw1]; exact (wrap_in hkp (by omega) (by omega)).2 q))).symm, trivial⟩
      · skip
        by_cases hn3 : IntKind.i64.wrap (IntKind.i64.wrap (n + 1) + 1) ∈ keys
        · obtain ⟨b, hb, hbs, hlk⟩ := lookB_in (by rw [hkeys]; exact hn3)
          refine Run.walk hm Try.func11 100 ?_
          repeat' (first
            | ((with_reducible apply Onw.mk); conv => whnf)
            | (with_reducible first | apply Br.tt | apply Br.ff | apply Br.no)
            | ((with_reducible apply Br.t); · assumption)
            | ((with_reducible apply Br.f); · assumption)
            | ((with_reducible apply Br.dt); · exact ab_known)
            | ((with_reducible apply Br.df); · exact ab_known)
            | (with_reducible first | refine Br.dec (fun hc => ?_) (fun hc => ?_) | refine Br.mk (fun hc => ?_) (fun hc => ?_))
            | (refine PreP.mk (hpk _) ?_)
            | (refine OptP.some hlk ?_)
            | ((with_reducible first | apply NeedRows.mk | apply NeedMap.mk | apply NeedIter.mk); · exact ab_look)
            | ((with_reducible apply NeedLen.mk); · first | assumption | rfl)
            | ((with_reducible apply NeedRow.mk); · exact ab_lookR)
            | ((with_reducible apply DrawG.mk (List.replicate 60 false)); · decide +kernel)
            | (with_reducible first | refine NewP.mk (fun id hid => ?_) | refine NilP.mk (fun e he => ?_))
            | (with_reducible first | exact trivial | exact And.intro rfl rfl)
            | ((with_reducible apply PreP.mk); · exact ab_asked)
            | refine Exists.intro _ (PreP.mk (bytesOf_lst _) ?_)
            | refine PreP.mk (lenD_lst _) ?_
            | (with_reducible first | refine PreP.mk ?_ ?_ | refine BothP.mk ?_ ?_)
            | ((with_reducible apply AncOr.anc); · decide +kernel)
            | with_reducible refine AncOr.go ?_)
          refine Run.keep _ ?_ (ih (n + 1) _ _ (filter_less hn2) ⟨id, s4, t4, g4, _, .inr ⟨X, rfl⟩, rfl, nth_setN_same (nth_new hid), ⟨_, (setN_last hid).trans (List.append_assoc _ _ _)⟩, hall', by omega, by omega⟩)
          exact ⟨rfl, congrArg (fun x => some (i64 x)) hw1, rfl, congrArg (fun b => some (boolD b)) (decide_eq_true ((wrap_in hkp (by omega) (by omega)).1 (by rw [← hw1]; exact hn3))).symm, trivial⟩
        · have hlk := lookB_out (by rw [hkeys]; exact hn3)
          refine Run.walk hm Try.func11 100 ?_
          repeat' (first
            | ((with_reducible apply Onw.mk); conv => whnf)
            | (with_reducible first | apply Br.tt | apply Br.ff | apply Br.no)
            | ((with_reducible apply Br.t); · assumption)
            | ((with_reducible apply Br.f); · assumption)
            | ((with_reducible apply Br.dt); · exact ab_known)
            | ((with_reducible apply Br.df); · exact ab_known)
            | (with_reducible first | refine Br.dec (fun hc => ?_) (fun hc => ?_) | refine Br.mk (fun hc => ?_) (fun hc => ?_))
            | (refine PreP.mk (hpk _) ?_)
            | (refine OptP.none hlk ?_)
            | ((with_reducible first | apply NeedRows.mk | apply NeedMap.mk | apply NeedIter.mk); · exact ab_look)
            | ((with_reducible apply NeedLen.mk); · first | assumption | rfl)
            | ((with_reducible apply NeedRow.mk); · exact ab_lookR)
            | ((with_reducible apply DrawG.mk (List.replicate 60 false)); · decide +kernel)
            | (with_reducible first | refine NewP.mk (fun id hid => ?_) | refine NilP.mk (fun e he => ?_))
            | (with_reducible first | exact trivial | exact And.intro rfl rfl)
            | ((with_reducible apply PreP.mk); · exact ab_asked)
            | refine Exists.intro _ (PreP.mk (bytesOf_lst _) ?_)
            | refine PreP.mk (lenD_lst _) ?_
            | (with_reducible first | refine PreP.mk ?_ ?_ | refine BothP.mk ?_ ?_)
            | ((with_reducible apply AncOr.anc); · decide +kernel)
            | with_reducible refine AncOr.go ?_)
          refine Run.keep _ ?_ (ih (n + 1) _ _ (filter_less hn2) ⟨id, s4, t4, g4, _, .inr ⟨X, rfl⟩, rfl, nth_setN_same (nth_new hid), ⟨_, (setN_last hid).trans (List.append_assoc _ _ _)⟩, hall', by omega, by omega⟩)
          exact ⟨rfl, congrArg (fun x => some (i64 x)) hw1, rfl, congrArg (fun b => some (boolD b)) (decide_eq_false (fun q => hn3 (by rw [hw1]; exact (wrap_in hkp (by omega) (by omega)).2 q))).symm, trivial⟩
    · rw [decide_eq_false hn2]
      refine Run.walk hm Try.func11 100 ?_
      repeat' (first
        | ((with_reducible apply Onw.mk); conv => whnf)
        | (with_reducible first | apply Br.tt | apply Br.ff | apply Br.no)
        | ((with_reducible apply Br.t); · assumption)
        | ((with_reducible apply Br.f); · assumption)
        | ((with_reducible apply Br.dt); · exact ab_known)
        | ((with_reducible apply Br.df); · exact ab_known)
        | (with_reducible first | refine Br.dec (fun hc => ?_) (fun hc => ?_) | refine Br.mk (fun hc => ?_) (fun hc => ?_))
        | ((with_reducible first | apply NeedRows.mk | apply NeedMap.mk | apply NeedIter.mk); · exact ab_look)
        | ((with_reducible apply NeedLen.mk); · first | assumption | rfl)
        | ((with_reducible apply NeedRow.mk); · exact ab_lookR)
        | ((with_reducible apply DrawG.mk (List.replicate 60 false)); · decide +kernel)
        | (with_reducible first | refine NewP.mk (fun id hid => ?_) | refine NilP.mk (fun e he => ?_))
        | (with_reducible first | exact trivial | exact And.intro rfl rfl)
        | ((with_reducible apply PreP.mk); · exact ab_asked)
        | refine Exists.intro _ (PreP.mk (bytesOf_lst _) ?_)
        | refine PreP.mk (lenD_lst _) ?_
        | (with_reducible first | refine PreP.mk ?_ ?_ | refine BothP.mk ?_ ?_)
        | ((with_reducible apply AncOr.anc); · decide +kernel)
        | with_reducible refine AncOr.go ?_)
      exact ⟨⟨n, rfl, by omega, hall, hn2⟩, _, rfl⟩
  · rw [← hkeys] at hin
    have hlk := lookB_out hin
    rw [hkeys] at hin
    repeat' (first
      | ((with_reducible apply Onw.mk); conv => whnf)
      | (with_reducible first | apply Br.tt | apply Br.ff | apply Br.no)
      | ((with_reducible apply Br.t); · assumption)
      | ((with_reducible apply Br.f); · assumption)
      | ((with_reducible apply Br.dt); · exact ab_known)
      | ((with_reducible apply Br.df); · exact ab_known)
      | (with_reducible first | refine Br.dec (fun hc => ?_) (fun hc => ?_) | refine Br.mk (fun hc => ?_) (fun hc => ?_))
      | (refine PreP.mk (hpk _) ?_)
      | (refine OptP.none hlk ?_)
      | ((with_reducible first | apply NeedRows.mk | apply NeedMap.mk | apply NeedIter.mk); · exact ab_look)
      | ((with_reducible apply NeedLen.mk); · first | assumption | rfl)
      | ((with_reducible apply NeedRow.mk); · exact ab_lookR)
      | ((with_reducible apply DrawG.mk (List.replicate 60 false)); · decide +kernel)
      | (with_reducible first | refine NewP.mk (fun id hid => ?_) | refine NilP.mk (fun e he => ?_))
      | (with_reducible first | exact trivial | exact And.intro rfl rfl)
      | ((with_reducible apply PreP.mk); · exact ab_asked)
      | refine Exists.intro _ (PreP.mk (bytesOf_lst _) ?_)
      | refine PreP.mk (lenD_lst _) ?_
      | (with_reducible first | refine PreP.mk ?_ ?_ | refine BothP.mk ?_ ?_)
      | ((with_reducible apply AncOr.anc); · decide +kernel)
      | with_reducible refine AncOr.go ?_)
    refine Run.keep [(0, .ptr r 0 0), (3, i64 (low - 1)), (4, .ptr id 0 0), (5, boolD (decide (low - 1 + 1 ∈ keys)))] ⟨rfl, congrArg (fun x => some (i64 x)) hwl, rfl, congrArg (fun b => some (boolD b)) (decide_eq_false (by rw [← hw0]; exact hin)).symm, trivial⟩ ?_
    refine Run.rounds (fun (n : Int) T H2 => ∃ (id4 : Nat) (s t : Int) (g : List UInt8) (e : P), (e = .nil ∨ ∃ X, e = .lst X) ∧ T = [(0, .ptr r 0 0), (3, i64 n), (4, .ptr id4 0 0), (5, boolD (decide (n + 1 ∈ keys)))] ∧
      nth H2 id4 = some (.rows [[i64 s, i64 t, .p (.str g), .p e]]) ∧ (∃ x, H2 = H ++ x) ∧ (∀ i, low ≤ i → i ≤ n → i ∈ keys) ∧ low - 1 ≤ n ∧ n ≤ 9223372036854775807) (fun n => (keys.filter fun k => decide (n < k)).length) ?_ (x := low - 1)
      ⟨_, _, _, _, _, .inl rfl, rfl, nth_setN_same (nth_new hid), ⟨_, setN_last hid⟩, fun i h1 h2 => by omega, Int.le_refl _, by omega⟩
    rintro n T H2 ⟨id4, s4, t4, g4, e4, he4, rfl, hrow4, ⟨x, rfl⟩, hall, hn0, hn1⟩ ih
    have h1' := nth_app (l' := x) h1
    have h2' := nth_app (l' := x) h2
    have hltr := nth_lt h1'
    have hltm := nth_lt h2'
    by_cases hn2 : n + 1 ∈ keys
    · rw [decide_eq_true hn2]
      have hk1 := hkp _ hn2
      have hw1 : IntKind.i64.wrap (n + 1) = n + 1 := wrap64 (by omega) (by omega)
      have hall' : ∀ i, low ≤ i → i ≤ n + 1 → i ∈ keys := fun i h1 h2 => by
        rcases Int.lt_or_le n i with q | q
        · obtain rfl : i = n + 1 := by omega
          exact hn2
        · exact hall i h1 q
      rcases he4 with rfl | ⟨X, rfl⟩
      · skip
        by_cases hn3 : IntKind.i64.wrap (IntKind.i64.wrap (n + 1) + 1) ∈ keys
        · obtain ⟨b, hb, hbs, hlk⟩ := lookB_in (by rw [hkeys]; exact hn3)
          refine Run.walk hm Try.func11 100 ?_
          repeat' (first
            | ((with_reducible apply Onw.mk); conv => whnf)
            | (with_reducible first | apply Br.tt | apply Br.ff | apply Br.no)
            | ((with_reducible apply Br.t); · assumption)
            | ((with_reducible apply Br.f); · assumption)
            | ((with_reducible apply Br.dt); · exact ab_known)
            | ((with_reducible apply Br.df); · exact ab_known)
            | (with_reducible first | refine Br.dec (fun hc => ?_) (fun hc => ?_) | refine Br.mk (fun hc => ?_) (fun hc => ?_))
            | (refine PreP.mk (hpk _) ?_)
            | (refine OptP.some hlk ?_)
            | ((with_reducible first | apply NeedRows.mk | apply NeedMap.mk | apply NeedIter.mk); · exact ab_look)
            | ((with_reducible apply NeedLen.mk); · first | assumption | rfl)
            | ((with_reducible apply NeedRow.mk); · exact ab_lookR)
            | ((with_reducible apply DrawG.mk (List.replicate 60 false)); · decide +kernel)
            | (with_reducible first | refine NewP.mk (fun id hid => ?_) | refine NilP.mk (fun e he => ?_))
            | (with_reducible first | exact trivial | exact And.intro rfl rfl)
            | ((with_reducible apply PreP.mk); · exact ab_asked)
            | refine Exists.intro _ (PreP.mk (bytesOf_lst _) ?_)
            | refine PreP.mk (lenD_lst _) ?_
            | (with_reducible first | refine PreP.mk ?_ ?_ | refine BothP.mk ?_ ?_)
            | ((with_reducible apply AncOr.anc); · decide +kernel)
            | with_reducible refine AncOr.go ?_)
          refine Run.keep _ ?_ (ih (n + 1) _ _ (filter_less hn2) ⟨id, s4, t4, g4, _, .inl rfl, rfl, nth_setN_same (nth_new hid), ⟨_, (setN_last hid).trans (List.append_assoc _ _ _)⟩, hall', by omega, by omega⟩)
          exact ⟨rfl, congrArg (fun x => some (i64 x)) hw1, rfl, congrArg (fun b => some (boolD b)) (decide_eq_true ((wrap_in hkp (by omega) (by omega)).1 (by rw [← hw1]; exact hn3))).symm, trivial⟩
        · have hlk := lookB_out (by rw [hkeys]; exact hn3)
          refine Run.walk hm Try.func11 100 ?_
          repeat' (first
            | ((with_reducible apply Onw.mk); conv => whnf)
            | (with_reducible first | apply Br.tt | apply Br.ff | apply Br.no)
            | ((with_reducible apply Br.t); · assumption)
            | ((with_reducible apply Br.f); · assumption)
            | ((with_reducible apply Br.dt); · exact ab_known)
            | ((with_reducible apply Br.df); · exact ab_known)
            | (with_reducible first | refine Br.dec (fun hc => ?_) (fun hc => ?_) | refine Br.mk (fun hc => ?_) (fun hc => ?_))
            | (refine PreP.mk (hpk _) ?_)
            | (refine OptP.none hlk ?_)
            | ((with_reducible first | apply NeedRows.mk | apply NeedMap.mk | apply NeedIter.mk); · exact ab_look)
            | ((with_reducible apply NeedLen.mk); · first | assumption | rfl)
            | ((with_reducible apply NeedRow.mk); · exact ab_lookR)
            | ((with_reducible apply DrawG.mk (List.replicate 60 false)); · decide +kernel)
            | (with_reducible first | refine NewP.mk (fun id hid => ?_) | refine NilP.mk (fun e he => ?_))
            | (with_reducible first | exact trivial | exact And.intro rfl rfl)
            | ((with_reducible apply PreP.mk); · exact ab_asked)
            | refine Exists.intro _ (PreP.mk (bytesOf_lst _) ?_)
            | refine PreP.mk (lenD_lst _) ?_
            | (with_reducible first | refine PreP.mk ?_ ?_ | refine BothP.mk ?_ ?_)
            | ((with_reducible apply AncOr.anc); · decide +kernel)
            | with_reducible refine AncOr.go ?_)
          refine Run.keep _ ?_ (ih (n + 1) _ _ (filter_less hn2) ⟨id, s4, t4, g4, _, .inl rfl, rfl, nth_setN_same (nth_new hid), ⟨_, (setN_last hid).trans (List.append_assoc _ _ _)⟩, hall', by omega, by omega⟩)
          exact ⟨rfl, congrArg (fun x => some (i64 x)) hw1, rfl, congrArg (fun b => some (boolD b)) (decide_eq_false (fun q => hn3 (by rw [hw1]; exact (wrap_in hkp (by omega) (by omega)).2 q))).symm, trivial⟩
      · skip
        by_cases hn3 : IntKind.i64.wrap (IntKind.i64.wrap (n + 1) + 1) ∈ keys
        · obtain ⟨b, hb, hbs, hlk⟩ := lookB_in (by rw [hkeys]; exact hn3)
          refine Run.walk hm Try.func11 100 ?_
          repeat' (first
            | ((with_reducible apply Onw.mk); conv => whnf)
            | (with_reducible first | apply Br.tt | apply Br.ff | apply Br.no)
            | ((with_reducible apply Br.t); · assumption)
            | ((with_reducible apply Br.f); · assumption)
            | ((with_reducible apply Br.dt); · exact ab_known)
            | ((with_reducible apply Br.df); · exact ab_known)
            | (with_reducible first | refine Br.dec (fun hc => ?_) (fun hc => ?_) | refine Br.mk (fun hc => ?_) (fun hc => ?_))
            | (refine PreP.mk (hpk _) ?_)
            | (refine OptP.some hlk ?_)
            | ((with_reducible first | apply NeedRows.mk | apply NeedMap.mk | apply NeedIter.mk); · exact ab_look)
            | ((with_reducible apply NeedLen.mk); · first | assumption | rfl)
            | ((with_reducible apply NeedRow.mk); · exact ab_lookR)
            | ((with_reducible apply DrawG.mk (List.replicate 60 false)); · decide +kernel)
            | (with_reducible first | refine NewP.mk (fun id hid => ?_) | refine NilP.mk (fun e he => ?_))
            | (with_reducible first | exact trivial | exact And.intro rfl rfl)
            | ((with_reducible apply PreP.mk); · exact ab_asked)
            | refine Exists.intro _ (PreP.mk (bytesOf_lst _) ?_)
            | refine PreP.mk (lenD_lst _) ?_
            | (with_reducible first | refine PreP.mk ?_ ?_ | refine BothP.mk ?_ ?_)
            | ((with_reducible apply AncOr.anc); · decide +kernel)
            | with_reducible refine AncOr.go ?_)
          refine Run.keep _ ?_ (ih (n + 1) _ _ (filter_less hn2) ⟨id, s4, t4, g4, _, .inr ⟨X, rfl⟩, rfl, nth_setN_same (nth_new hid), ⟨_, (setN_last hid).trans (List.append_assoc _ _ _)⟩, hall', by omega, by omega⟩)
          exact ⟨rfl, congrArg (fun x => some (i64 x)) hw1, rfl, congrArg (fun b => some (boolD b)) (decide_eq_true ((wrap_in hkp (by omega) (by omega)).1 (by rw [← hw1]; exact hn3))).symm, trivial⟩
        · have hlk := lookB_out (by rw [hkeys]; exact hn3)
          refine Run.walk hm Try.func11 100 ?_
          repeat' (first
            | ((with_reducible apply Onw.mk); conv => whnf)
            | (with_reducible first | apply Br.tt | apply Br.ff | apply Br.no)
            | ((with_reducible apply Br.t); · assumption)
            | ((with_reducible apply Br.f); · assumption)
            | ((with_reducible apply Br.dt); · exact ab_known)
            | ((with_reducible apply Br.df); · exact ab_known)
            | (with_reducible first | refine Br.dec (fun hc => ?_) (fun hc => ?_) | refine Br.mk (fun hc => ?_) (fun hc => ?_))
            | (refine PreP.mk (hpk _) ?_)
            | (refine OptP.none hlk ?_)
            | ((with_reducible first | apply NeedRows.mk | apply NeedMap.mk | apply NeedIter.mk); · exact ab_look)
            | ((with_reducible apply NeedLen.mk); · first | assumption | rfl)
            | ((with_reducible apply NeedRow.mk); · exact ab_lookR)
            | ((with_reducible apply DrawG.mk (List.replicate 60 false)); · decide +kernel)
            | (with_reducible first | refine NewP.mk (fun id hid => ?_) | refine NilP.mk (fun e he => ?_))
            | (with_reducible first | exact trivial | exact And.intro rfl rfl)
            | ((with_reducible apply PreP.mk); · exact ab_asked)
            | refine Exists.intro _ (PreP.mk (bytesOf_lst _) ?_)
            | refine PreP.mk (lenD_lst _) ?_
            | (with_reducible first | refine PreP.mk ?_ ?_ | refine BothP.mk ?_ ?_)
            | ((with_reducible apply AncOr.anc); · decide +kernel)
            | with_reducible refine AncOr.go ?_)
          refine Run.keep _ ?_ (ih (n + 1) _ _ (filter_less hn2) ⟨id, s4, t4, g4, _, .inr ⟨X, rfl⟩, rfl, nth_setN_same (nth_new hid), ⟨_, (setN_last hid).trans (List.append_assoc _ _ _)⟩, hall', by omega, by omega⟩)
          exact ⟨rfl, congrArg (fun x => some (i64 x)) hw1, rfl, congrArg (fun b => some (boolD b)) (decide_eq_false (fun q => hn3 (by rw [hw1]; exact (wrap_in hkp (by omega) (by omega)).2 q))).symm, trivial⟩
    · rw [decide_eq_false hn2]
      refine Run.walk hm Try.func11 100 ?_
      repeat' (first
        | ((with_reducible apply Onw.mk); conv => whnf)
        | (with_reducible first | apply Br.tt | apply Br.ff | apply Br.no)
        | ((with_reducible apply Br.t); · assumption)
        | ((with_reducible apply Br.f); · assumption)
        | ((with_reducible apply Br.dt); · exact ab_known)
        | ((with_reducible apply Br.df); · exact ab_known)
        | (with_reducible first | refine Br.dec (fun hc => ?_) (fun hc => ?_) | refine Br.mk (fun hc => ?_) (fun hc => ?_))
        | ((with_reducible first | apply NeedRows.mk | apply NeedMap.mk | apply NeedIter.mk); · exact ab_look)
        | ((with_reducible apply NeedLen.mk); · first | assumption | rfl)
        | ((with_reducible apply NeedRow.mk); · exact ab_lookR)
        | ((with_reducible apply DrawG.mk (List.replicate 60 false)); · decide +kernel)
        | (with_reducible first | refine NewP.mk (fun id hid => ?_) | refine NilP.mk (fun e he => ?_))
        | (with_reducible first | exact trivial | exact And.intro rfl rfl)
        | ((with_reducible apply PreP.mk); · exact ab_asked)
        | refine Exists.intro _ (PreP.mk (bytesOf_lst _) ?_)
        | refine PreP.mk (lenD_lst _) ?_
        | (with_reducible first | refine PreP.mk ?_ ?_ | refine BothP.mk ?_ ?_)
        | ((with_reducible apply AncOr.anc); · decide +kernel)
        | with_reducible refine AncOr.go ?_)
      exact ⟨⟨n, rfl, by omega, hall, hn2⟩, _, rfl⟩
end Go.Proofs.Ytjlhkbikconboaa
