/- What functions of the receiver, of labels, rows, batches, and of the laws over them, do. Conditions: those that each theorem names. -/
import Derived.Test.YtjlhkbikconboaaQ20
set_option linter.unusedVariables false
set_option linter.unusedSimpArgs false
namespace Go.Proofs.Ytjlhkbikconboaa
open Go.Ab
set_option maxRecDepth 100000
set_option maxHeartbeats 1000000
attribute [local irreducible] Run CallOK DetCall Br PreP BothP AncOr Onw NeedRows NeedMap NeedRow NeedLen NilP NeedIter RoundP EntryP EqP OptP NewP NewSlice NewMade AppTo DrawG anc drawB
/-- The document's receiver: a list of batches, told; the greatest low. -/
def DocAt (H : Heap) (m : Nat) (L : List Bt) (low : Int) : Prop := nth H m = some (.rows [[.p (.lst (L.map batRow)), i64 low]])
/-- What Get of the document tells. -/
def getD (L : List Bt) (n : Int) : D := match L.find? (fun b => decide (n = b.seq)) with
  | some b => .tup [.p (btP b), boolD true]
  | none => .tup [.p (.agg [.int .i64 0, .int .i64 0, .str [], .nil]), boolD false]
theorem q16 (H : Heap) (m : Nat) (L : List Bt) (low : Int) (h : DocAt H m L low) (hL : L.length ≤ 1000000) (n : Int) : Ab.Spec Try.prog 16 [.ptr m 0 0, i64 n] H (fun r H' => r = getD L n ∧ ∃ x, H' = H ++ x) := by
  have h0 := h
  unfold DocAt at h0
  have hlt := nth_lt h0
  have hll : ((L.map batRow).length : Int) = L.length := by simp
  refine Ab.Spec.walk hm Try.func16 (by kernel_rfl) 100 ?_
  repeat' (first
    | ((with_reducible apply Onw.mk); conv => whnf)
    | (with_reducible first | apply Br.tt | apply Br.ff | apply Br.no)
    | ((with_reducible apply Br.t); · assumption)
    | ((with_reducible apply Br.f); · assumption)
    | ((with_reducible apply Br.dt); · exact ab_known)
    | ((with_reducible apply Br.df); · exact ab_known)
    | (with_reducible first | refine Br.dec (fun hc => ?_) (fun hc => ?_) | refine Br.mk (fun hc => ?_) (fun hc => ?_))
    | ((with_reducible first | apply NeedRows.mk | apply NeedMap.mk | apply NeedIter.mk); · exact ab_look)
    | ((with_reducible apply NeedLen.mk); · first | assumption | rfl)
    | ((with_reducible apply NeedRow.mk); · exact ab_lookR)
    | ((with_reducible apply DrawG.mk (List.replicate 60 false)); · decide +kernel)
    | (with_reducible first | refine NewP.mk (fun id hid => ?_) | refine NilP.mk (fun e he => ?_))
    | (with_reducible first | exact trivial | exact And.intro rfl rfl)
    | ((with_reducible apply PreP.mk); · exact ab_asked)
    | refine Exists.intro _ (PreP.mk (bytesOf_lst _) ?_)
    | refine PreP.mk (lenD_lst _) ?_
    | (with_reducible first | refine PreP.mk ?_ ?_ | refine BothP.mk ?_ ?_)
    | ((with_reducible apply AncOr.anc); · decide +kernel)
    | with_reducible refine AncOr.go ?_)
  have hrow := nth_app (l' := [Ab.Obj.rows [List.map D.p (List.map constP0 #[Value.int IntKind.i64 0, Value.int IntKind.i64 0, Value.string { data := #[] }, Value.slice none 0 0].toList)]]) h0
  refine Run.keep [(0, .ptr m 0 0), (1, i64 n), (4, .ptr id 0 0), (6, i64 (0 : Nat))] ⟨rfl, rfl, rfl, rfl, trivial⟩ ?_
  have hne : m ≠ id := by omega
  refine Run.rounds (fun (i : Nat) T H2 => T = [(0, .ptr m 0 0), (1, i64 n), (4, .ptr id 0 0), (6, i64 i)] ∧ nth H2 m = some (.rows [[.p (.lst (L.map batRow)), i64 low]]) ∧ nth H2 id = some (.rows [[.p (.int .i64 0), .p (.int .i64 0), .p (.str []), .p .nil]]) ∧ (∃ z, H2 = H ++ z) ∧ i ≤ L.length ∧
    L.find? (fun b => decide (n = b.seq)) = (L.drop i).find? (fun b => decide (n = b.seq))) (fun i => L.length - i) ?_ (x := 0)
    ⟨rfl, hrow, nth_new hid, ⟨_, rfl⟩, Nat.zero_le _, rfl⟩
  have hid2 : H.length ≤ id := by omega
  clear hrow hid
  rintro i T H2 ⟨rfl, hr1, hr2, ⟨z, rfl⟩, hil, heq⟩ ih
  have g1 := nth_lt hr1
  have g2 := nth_lt hr2
  refine Run.walk hm Try.func16 100 ?_
  rcases Nat.lt_or_ge i L.length with hi | hi
  · have hc1 : (i : Int) < ((L.map batRow).length : Int) := by rw [hll]; omega
    have wi : IntKind.i64.wrap ((i : Int) + 1) = ((i + 1 : Nat) : Int) := by rw [wrap64 (by omega) (by omega)]; omega
    obtain ⟨p, hp⟩ : ∃ p, L[i]? = some p := ⟨_, List.getElem?_eq_getElem hi⟩
    have hri : Ab.rowAt (L.map batRow) (i : Int).toNat = batRow p := rowAt_map hp
    have hrp : (0 : Int) ≤ (i : Int) ∧ (i : Int) < ((L.map batRow).length : Int) ∧ (Ab.rowAt (L.map batRow) (i : Int).toNat).length = 4 := ⟨by omega, hc1, by rw [hri]; rfl⟩
    rw [drop_cons hp, List.find?_cons] at heq
    by_cases hpn : p.seq = n
    · repeat' (first
      | ((with_reducible apply Onw.mk); conv => whnf)
      | (with_reducible first | apply Br.tt | apply Br.ff | apply Br.no)
      | ((with_reducible apply Br.t); · assumption)
      | ((with_reducible apply Br.f); · assumption)
      | ((with_reducible apply Br.dt); · exact ab_known)
      | ((with_reducible apply Br.df); · exact ab_known)
      | (with_reducible first | refine Br.dec (fun hc => ?_) (fun hc => ?_) | refine Br.mk (fun hc => ?_) (fun hc => ?_))
      | (refine PreP.mk hrp ?_)
      | (refine EqP.mk hri ?_)
      | ((with_reducible first | apply NeedRows.mk | apply NeedMap.mk | apply NeedIter.mk); · exact ab_look)
      | ((with_reducible apply NeedLen.mk); · first | assumption | rfl)
      | ((with_reducible apply NeedRow.mk); · exact ab_lookR)
      | ((with_reducible apply DrawG.mk (List.replicate 60 false)); · decide +kernel)
      | (with_reducible first | refine NewP.mk (fun id hid => ?_) | refine NilP.mk (fun e he => ?_))
      | (with_reducible first | exact trivial | exact And.intro rfl rfl)
      | ((with_reducible apply PreP.mk); · exact ab_asked)
      | refine Exists.intro _ (PreP.mk (bytesOf_lst _) ?_)
      | refine PreP.mk (lenD_lst _) ?_
      | (with_reducible first | refine PreP.mk ?_ ?_ | refine BothP.mk ?_ ?_)
      | ((with_reducible apply AncOr.anc); · decide +kernel)
      | with_reducible refine AncOr.go ?_)
      have e : getD L n = .tup [.p (btP p), boolD true] := by
        unfold getD; rw [heq]; simp [hpn]
      refine ⟨by rw [e]; rfl, prefix_of (fun j o hj => ?_)⟩
      have := nth_lt hj
      exact nth_setN_ne (by omega) (nth_app hj)
    · have hpn2 : ¬ n = p.seq := fun e => hpn e.symm
      repeat' (first
        | ((with_reducible apply Onw.mk); conv => whnf)
        | (with_reducible first | apply Br.tt | apply Br.ff | apply Br.no)
        | ((with_reducible apply Br.t); · assumption)
        | ((with_reducible apply Br.f); · assumption)
        | ((with_reducible apply Br.dt); · exact ab_known)
        | ((with_reducible apply Br.df); · exact ab_known)
        | (with_reducible first | refine Br.dec (fun hc => ?_) (fun hc => ?_) | refine Br.mk (fun hc => ?_) (fun hc => ?_))
        | (refine PreP.mk hrp ?_)
        | (refine EqP.mk hri ?_)
        | ((with_reducible first | apply NeedRows.mk | apply NeedMap.mk | apply NeedIter.mk); · exact ab_look)
        | ((with_reducible apply NeedLen.mk); · first | assumption | rfl)
        | ((with_reducible apply NeedRow.mk); · exact ab_lookR)
        | ((with_reducible apply DrawG.mk (List.replicate 60 false)); · decide +kernel)
        | (with_reducible first | refine NewP.mk (fun id hid => ?_) | refine NilP.mk (fun e he => ?_))
        | (with_reducible first | exact trivial | exact And.intro rfl rfl)
        | ((with_reducible apply PreP.mk); · exact ab_asked)
        | refine Exists.intro _ (PreP.mk (bytesOf_lst _) ?_)
        | refine PreP.mk (lenD_lst _) ?_
        | (with_reducible first | refine PreP.mk ?_ ?_ | refine BothP.mk ?_ ?_)
        | ((with_reducible apply AncOr.anc); · decide +kernel)
        | with_reducible refine AncOr.go ?_)
      refine Run.keep _ ?_ (ih (i + 1) _ _ (by omega) ⟨rfl, hr1, hr2, ⟨z, rfl⟩, by omega, by rw [heq]; simp [hpn2]⟩)
      exact ⟨rfl, rfl, rfl, congrArg (fun x => some (i64 x)) wi, trivial⟩
  · have hc1 : ¬ (i : Int) < ((L.map batRow).length : Int) := by rw [hll]; omega
    repeat' (first
      | ((with_reducible apply Onw.mk); conv => whnf)
      | (with_reducible first | apply Br.tt | apply Br.ff | apply Br.no)
      | ((with_reducible apply Br.t); · assumption)
      | ((with_reducible apply Br.f); · assumption)
      | ((with_reducible apply Br.dt); · exact ab_known)
      | ((with_reducible apply Br.df); · exact ab_known)
      | (with_reducible first | refine Br.dec (fun hc => ?_) (fun hc => ?_) | refine Br.mk (fun hc => ?_) (fun hc => ?_))
      | ((with_reducible first | apply NeedRows.mk | apply NeedMap.mk | apply NeedIter.mk); · exact ab_look)
      | ((with_reducible apply NeedLen.mk); · first | assumption | rfl)
      | ((with_reducible apply NeedRow.mk); · exact ab_lookR)
      | ((with_reducible apply DrawG.mk (List.replicate 60 false)); · decide +kernel)
      | (with_reducible first | refine NewP.mk (fun id hid => ?_) | refine NilP.mk (fun e he => ?_))
      | (with_reducible first | exact trivial | exact And.intro rfl rfl)
      | ((with_reducible apply PreP.mk); · exact ab_asked)
      | refine Exists.intro _ (PreP.mk (bytesOf_lst _) ?_)
      | refine PreP.mk (lenD_lst _) ?_
      | (with_reducible first | refine PreP.mk ?_ ?_ | refine BothP.mk ?_ ?_)
      | ((with_reducible apply AncOr.anc); · decide +kernel)
      | with_reducible refine AncOr.go ?_)
    have e : getD L n = .tup [.p (.agg [.int .i64 0, .int .i64 0, .str [], .nil]), boolD false] := by
      unfold getD; rw [heq, List.drop_eq_nil_of_le hi]; rfl
    refine ⟨by rw [e]; rfl, prefix_of (fun j o hj => ?_)⟩
    have := nth_lt hj
    exact nth_setN_ne (by omega) (nth_app hj)
theorem getD_pure (L : List Bt) (n : Int) : pureD (getD L n) = true := by
  unfold getD; split <;> rfl
theorem c16 (H : Heap) (m : Nat) (L : List Bt) (low : Int) (h : DocAt H m L low) (hL : L.length ≤ 1000000) (n : Int) : CallOK Try.prog 16 [.ptr m 0 0, i64 n] H (fun r H' => r = getD L n ∧ H' = H) :=
  (CallOK.trim (Q := fun r => r = getD L n) ((CallOK.of_spec (q16 H m L low h hL n)).mono (fun _ _ hr => ⟨hr.2, by rw [hr.1]; exact getD_pure L n, hr.1⟩))).mono (fun _ _ hr => ⟨hr.2.2, hr.1⟩)
theorem getD_in {L : List Bt} {n : Int} (h : n ∈ L.map (·.seq)) : ∃ b ∈ L, b.seq = n ∧ getD L n = .tup [.p (btP b), boolD true] := by
  obtain ⟨f, hf, e⟩ := List.mem_map.1 h
  unfold getD
  cases hq : L.find? (fun b => decide (n = b.seq)) with
  | none =>
    have := List.find?_eq_none.1 hq f hf
    simp [e] at this
  | some b =>
    have h1 := List.find?_some hq
    simp only [decide_eq_true_eq] at h1
    exact ⟨b, List.mem_of_find?_eq_some hq, h1.symm, rfl⟩
theorem getD_out {L : List Bt} {n : Int} (h : n ∉ L.map (·.seq)) : getD L n = .tup [.p (.agg [.int .i64 0, .int .i64 0, .str [], .nil]), boolD false] := by
  unfold getD
  have : L.find? (fun b => decide (n = b.seq)) = none := by
    rw [List.find?_eq_none]
    intro f hf e
    simp only [decide_eq_true_eq] at e
    exact h (List.mem_map.2 ⟨f, hf, e.symm⟩)
  rw [this]
theorem q12 (H : Heap) (m : Nat) (L : List Bt) (low : Int) (h : DocAt H m L low) (hL : L.length ≤ 1000000) (hlow : 0 ≤ low) (hlow2 : low ≤ 9223372036854775807) (hkp : ∀ k ∈ L.map (·.seq), 0 < k ∧ k ≤ 9223372036854775807) :
    Ab.Spec Try.prog 12 [.ptr m 0 0] H (fun r H' => (∃ k, r = i64 k ∧ IsMark (L.map (·.seq)) (if low < 1 then 1 else low) k) ∧ ∃ x, H' = H ++ x) := by
  have h0 := h
  unfold DocAt at h0
  have hlt := nth_lt h0
  generalize hlo : (if low < 1 then 1 else low) = lo
  have hlo1 : 1 ≤ lo ∧ lo ≤ 9223372036854775807 := by subst hlo; split <;> omega
  have hwl : IntKind.i64.wrap (lo - 1) = lo - 1 := wrap64 (by omega) (by omega)
  refine Ab.Spec.walk hm Try.func12 (by kernel_rfl) 100 ?_
  repeat' (first
    | ((with_reducible apply Onw.mk); conv => whnf)
    | (with_reducible first | apply Br.tt | apply Br.ff | apply Br.no)
    | ((with_reducible apply Br.t); · assumption)
    | ((with_reducible apply Br.f); · assumption)
    | ((with_reducible apply Br.dt); · exact ab_known)
    | ((with_reducible apply Br.df); · exact ab_known)
    | (with_reducible first | refine Br.dec (fun hc => ?_) (fun hc => ?_) | refine Br.mk (fun hc => ?_) (fun hc => ?_))
    | ((with_reducible first | apply NeedRows.mk | apply NeedMap.mk | apply NeedIter.mk); · exact ab_look)
    | ((with_reducible apply NeedLen.mk); · first | assumption | rfl)
    | ((with_reducible apply NeedRow.mk); · exact ab_lookR)
    | ((with_reducible apply DrawG.mk (List.replicate 60 false)); · decide +kernel)
    | (with_reducible first | refine NewP.mk (fun id hid => ?_) | refine NilP.mk (fun e he => ?_))
    | (with_reducible first | exact trivial | exact And.intro rfl rfl)
    | ((with_reducible apply PreP.mk); · exact ab_asked)
    | refine Exists.intro _ (PreP.mk (bytesOf_lst _) ?_)
    | refine PreP.mk (lenD_lst _) ?_
    | (with_reducible first | refine PreP.mk ?_ ?_ | refine BothP.mk ?_ ?_)
    | ((with_reducible apply AncOr.anc); · decide +kernel)
    | with_reducible refine AncOr.go ?_)
  generalize hkeys : L.map (·.seq) = keys at *
  refine Run.keep [(0, .ptr m 0 0), (3, i64 (lo - 1))] ⟨rfl, congrArg (fun x => some (i64 x)) (show IntKind.i64.wrap ((if low < 1 then 1 else low) - 1) = lo - 1 by rw [hlo, hwl]), trivial⟩ ?_
  refine Run.rounds (fun (n : Int) T H2 => T = [(0, .ptr m 0 0), (3, i64 n)] ∧ (∃ x, H2 = H ++ x) ∧ (∀ j, lo ≤ j → j ≤ n → j ∈ keys) ∧ lo - 1 ≤ n ∧ n ≤ 9223372036854775807) (fun n => (keys.filter fun k => decide (n < k)).length) ?_ (x := lo - 1)
    ⟨rfl, ⟨[], by simp⟩, fun j h1 h2 => by omega, Int.le_refl _, by omega⟩
  rintro n T H2 ⟨rfl, ⟨x, rfl⟩, hall, hn0, hn1⟩ ih
  have hrow := nth_app (l' := x) h0
  refine Run.walk hm Try.func12 100 ?_
  repeat' (first
    | ((with_reducible apply Onw.mk); conv => whnf)
    | (with_reducible first | apply Br.tt | apply Br.ff | apply Br.no)
    | ((with_reducible apply Br.t); · assumption)
    | ((with_reducible apply Br.f); · assumption)
    | ((with_reducible apply Br.dt); · exact ab_known)
    | ((with_reducible apply Br.df); · exact ab_known)
    | (with_reducible first | refine Br.dec (fun hc => ?_) (fun hc => ?_) | refine Br.mk (fun hc => ?_) (fun hc => ?_))
    | ((with_reducible first | apply NeedRows.mk | apply NeedMap.mk | apply NeedIter.mk); · exact ab_look)
    | ((with_reducible apply NeedLen.mk); · first | assumption | rfl)
    | ((with_reducible apply NeedRow.mk); · exact ab_lookR)
    | ((with_reducible apply DrawG.mk (List.replicate 60 false)); · decide +kernel)
    | (with_reducible first | refine NewP.mk (fun id hid => ?_) | refine NilP.mk (fun e he => ?_))
    | (with_reducible first | exact trivial | exact And.intro rfl rfl)
    | ((with_reducible apply PreP.mk); · exact ab_asked)
    | refine Exists.intro _ (PreP.mk (bytesOf_lst _) ?_)
    | refine PreP.mk (lenD_lst _) ?_
    | (with_reducible first | refine PreP.mk ?_ ?_ | refine BothP.mk ?_ ?_)
    | ((with_reducible apply AncOr.anc); · decide +kernel)
    | with_reducible refine AncOr.go ?_)
  refine CallOK.go (c16 _ m L low hrow hL _) (fun r2 H2 hr2 => ?_)
  obtain ⟨rfl, he2⟩ := hr2
  rw [he2]; clear he2 H2
  by_cases hin : IntKind.i64.wrap (n + 1) ∈ keys
  · have hn2 := (wrap_in hkp (by omega) hn1).1 hin
    have hk1 := hkp _ hn2
    have hw1 : IntKind.i64.wrap (n + 1) = n + 1 := wrap64 (by omega) (by omega)
    obtain ⟨b, hb, hbs, hg⟩ := getD_in (L := L) (n := IntKind.i64.wrap (n + 1)) (by rw [hkeys]; exact hin)
    rw [hg]
    repeat' (first
      | ((with_reducible apply Onw.mk); conv => whnf)
      | (with_reducible first | apply Br.tt | apply Br.ff | apply Br.no)
      | ((with_reducible apply Br.t); · assumption)
      | ((with_reducible apply Br.f); · assumption)
      | ((with_reducible apply Br.dt); · exact ab_known)
      | ((with_reducible apply Br.df); · exact ab_known)
      | (with_reducible first | refine Br.dec (fun hc => ?_) (fun hc => ?_) | refine Br.mk (fun hc => ?_) (fun hc => ?_))
      | ((with_reducible first | apply NeedRows.mk | apply NeedMap.mk | apply NeedIter.mk); · exact ab_look)
      | ((with_reducible apply NeedLen.mk); · first | assumption | rfl)
      | ((with_reducible apply NeedRow.mk); · exact ab_lookR)
      | ((with_reducible apply DrawG.mk (List.replicate 60 false)); · decide +kernel)
      | (with_reducible first | refine NewP.mk (fun id hid => ?_) | refine NilP.mk (fun e he => ?_))
      | (with_reducible first | exact trivial | exact And.intro rfl rfl)
      | ((with_reducible apply PreP.mk); · exact ab_asked)
      | refine Exists.intro _ (PreP.mk (bytesOf_lst _) ?_)
      | refine PreP.mk (lenD_lst _) ?_
      | (with_reducible first | refine PreP.mk ?_ ?_ | refine BothP.mk ?_ ?_)
      | ((with_reducible apply AncOr.anc); · decide +kernel)
      | with_reducible refine AncOr.go ?_)
    refine Run.keep _ ?_ (ih (n + 1) _ _ (filter_less hn2) ⟨rfl, ⟨_, (setN_last hid).trans (List.append_assoc _ _ _)⟩, fun j h1 h2 => ?_, by omega, by omega⟩)
    · exact ⟨rfl, congrArg (fun x => some (i64 x)) hw1, trivial⟩
    · rcases Int.lt_or_le n j with q | q
      · obtain rfl : j = n + 1 := by omega
        exact hn2
      · exact hall j h1 q
  · have hn2 : n + 1 ∉ keys := fun q => hin ((wrap_in hkp (by omega) hn1).2 q)
    have hg := getD_out (L := L) (n := IntKind.i64.wrap (n + 1)) (by rw [hkeys]; exact hin)
    rw [hg]
    repeat' (first
      | ((with_reducible apply Onw.mk); conv => whnf)
      | (with_reducible first | apply Br.tt | apply Br.ff | apply Br.no)
      | ((with_reducible apply Br.t); · assumption)
      | ((with_reducible apply Br.f); · assumption)
      | ((with_reducible apply Br.dt); · exact ab_known)
      | ((with_reducible apply Br.df); · exact ab_known)
      | (with_reducible first | refine Br.dec (fun hc => ?_) (fun hc => ?_) | refine Br.mk (fun hc => ?_) (fun hc => ?_))
      | ((with_reducible first | apply NeedRows.mk | apply NeedMap.mk | apply NeedIter.mk); · exact ab_look)
      | ((with_reducible apply NeedLen.mk); · first | assumption | rfl)
      | ((with_reducible apply NeedRow.mk); · exact ab_lookR)
      | ((with_reducible apply DrawG.mk (List.replicate 60 false)); · decide +kernel)
      | (with_reducible first | refine NewP.mk (fun id hid => ?_) | refine NilP.mk (fun e he => ?_))
      | (with_reducible first | exact trivial | exact And.intro rfl rfl)
      | ((with_reducible apply PreP.mk); · exact ab_asked)
      | refine Exists.intro _ (PreP.mk (bytesOf_lst _) ?_)
      | refine PreP.mk (lenD_lst _) ?_
      | (with_reducible first | refine PreP.mk ?_ ?_ | refine BothP.mk ?_ ?_)
      | ((with_reducible apply AncOr.anc); · decide +kernel)
      | with_reducible refine AncOr.go ?_)
    exact ⟨⟨n, rfl, by omega, hall, hn2⟩, _, (setN_last hid).trans (List.append_assoc _ _ _)⟩
theorem c12 (H : Heap) (m : Nat) (L : List Bt) (low : Int) (h : DocAt H m L low) (hL : L.length ≤ 1000000) (hlow : 0 ≤ low) (hlow2 : low ≤ 9223372036854775807) (hkp : ∀ k ∈ L.map (·.seq), 0 < k ∧ k ≤ 9223372036854775807) (he : low = 0 → L = []) :
    CallOK Try.prog 12 [.ptr m 0 0] H (fun r H' => (∃ k, r = i64 k ∧ MarkIs (L.map (·.seq)) low k) ∧ H' = H) := by
  refine (CallOK.trim (Q := fun r => ∃ k, r = i64 k ∧ MarkIs (L.map (·.seq)) low k) ((CallOK.of_spec (q12 H m L low h hL hlow hlow2 hkp)).mono (fun _ _ hr => ⟨hr.2, by obtain ⟨⟨k, rfl, _⟩, _⟩ := hr; rfl, ?_⟩))).mono (fun _ _ hr => ⟨hr.2.2, hr.1⟩)
  obtain ⟨⟨k, rfl, hk⟩, _⟩ := hr
  refine ⟨k, rfl, ?_⟩
  rcases Int.lt_or_le 0 low with q | q
  · rw [if_neg (by omega)] at hk
    exact .inr ⟨by omega, hk⟩
  · have h0 : low = 0 := by omega
    have hL0 := he h0
    subst h0; subst hL0
    refine .inl ⟨rfl, ?_⟩
    rw [if_pos (by omega)] at hk
    exact hk.eq ⟨by omega, fun j h1 h2 => by omega, by simp⟩
end Go.Proofs.Ytjlhkbikconboaa
