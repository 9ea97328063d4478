/- What functions of the receiver, of labels, rows, batches, and of the laws over them, do. Conditions: those that each theorem names. -/
import Derived.Test.YtjlhkbikconboaaQ17
import Derived.Test.YtjlhkbikconboaaR6
set_option linter.unusedVariables false
set_option linter.unusedSimpArgs false
namespace Go.Proofs.Ytjlhkbikconboaa
open Go.Ab
set_option maxRecDepth 100000
set_option maxHeartbeats 1000000
attribute [local irreducible] Run CallOK DetCall Br PreP BothP AncOr Onw NeedRows NeedMap NeedRow NeedLen NilP NeedIter RoundP EntryP EqP OptP NewP NewSlice NewMade AppTo DrawG anc drawB
theorem rdP_nil {M : Mem} {v : Value} (h : RdP M .nil v) : RdP M (.lst []) v := by
  cases h with
  | nil => exact .lstNil
/-- A letter with no rows, told as one with an empty list. -/
theorem letter_nil {M : Mem} {env : List Blk} {d : D} {s t lo : Int} {g : List UInt8} {vs : List Value} (h : RdL M env [d, .p (.agg [.int .i64 s, .int .i64 t, .str g, .nil, .int .i64 lo])] vs) :
    RdL M env [d, .p (.agg [.int .i64 s, .int .i64 t, .str g, .lst [], .int .i64 lo])] vs := by
  obtain ⟨v, vs', rfl, hv, hr⟩ := h.cons_inv
  obtain ⟨v2, vs2, rfl, hv2, hr2⟩ := RdL.cons_inv hr
  refine .cons hv (.cons ?_ hr2)
  cases hv2 with | p hv2 =>
  cases hv2 with | agg hl hc =>
  refine .p (.agg hl (fun i c x hi hx => ?_))
  match i with
  | 0 => exact hc 0 _ x (by simpa using hi) hx
  | 1 => exact hc 1 _ x (by simpa using hi) hx
  | 2 => exact hc 2 _ x (by simpa using hi) hx
  | 3 =>
    have := hc 3 _ x rfl hx
    simp at hi; subst hi
    exact rdP_nil this
  | 4 => exact hc 4 _ x (by simpa using hi) hx
  | j + 5 => simp at hi
def bare (i t : Int) : Bt := ⟨i, t, [103], []⟩
theorem fits_bare (i t : Int) : FitsB (bare i t) := ⟨by simp [bare], by simp [bare], by simp [bare]⟩
theorem ok_bare {i t : Int} (hi : 1 ≤ i) (h1 : 0 ≤ t) (h2 : t ≤ 1000000) : letterOK (bare i t) 1 = true := by
  have h : nameOK [103] = true := by decide
  unfold letterOK batchOK bare
  simp only [h, decide_eq_true (show (0 : Int) < i by omega), decide_eq_true (show (0 : Int) ≤ t ∧ t ≤ 1000000 from ⟨h1, h2⟩), decide_eq_true hi]
  rfl
theorem s6 (H : Heap) (b : Bt) (lo : Int) (n : Nat) (hn : n < 256) (hg : b.g.length ≤ 9223372036854775807) (hr : ∀ r ∈ b.rows, Fits r.ls) (h6 : b.seq ≤ 9223372036854775807) :
    Ab.Spec Try.prog 6 [.p (letterP b lo), .p (.int .u8 n)] H (fun res _ => res = boolD true) := by
  have hbl : ((b.rows.map rowRow).length : Int) = b.rows.length := by simp
  generalize hk : n % 5 = k
  have hk5 : k < 5 := by have := Nat.mod_lt n (show 0 < 5 by omega); omega
  have wk : IntKind.i64.wrap ((n : Int).tmod 5) = (k : Int) := by
    have e : (n : Int).tmod 5 = ((n % 5 : Nat) : Int) := (Int.ofNat_tmod n 5).symm
    rw [e, hk, wrap64 (by omega) (by omega)]
  refine Ab.Spec.walk hm Try.func6 (by kernel_rfl) 100 ?_
  rcases Nat.lt_or_ge 12 b.rows.length with h12 | h12
  · have hc : (12 : Int) < ((b.rows.map rowRow).length : Int) := by rw [hbl]; omega
    repeat' (first
      | ((with_reducible apply Onw.mk); conv => whnf)
      | (with_reducible first | apply Br.tt | apply Br.ff | apply Br.no)
      | ((with_reducible apply Br.t); · assumption)
      | ((with_reducible apply Br.f); · assumption)
      | ((with_reducible apply Br.dt); · exact ab_known)
      | ((with_reducible apply Br.df); · exact ab_known)
      | (with_reducible first | refine Br.dec (fun hc => ?_) (fun hc => ?_) | refine Br.mk (fun hc => ?_) (fun hc => ?_))
      | (refine CallOK.go (c7 _) (fun r2 H2 hr2 => ?_); obtain ⟨rfl, he2⟩ := hr2; rw [he2]; clear he2 H2)
      | ((with_reducible first | apply NeedRows.mk | apply NeedMap.mk | apply NeedIter.mk); · exact ab_look)
      | ((with_reducible apply NeedLen.mk); · first | assumption | rfl)
      | ((with_reducible apply NeedRow.mk); · exact ab_lookR)
      | ((with_reducible apply DrawG.mk (List.replicate 60 false)); · decide +kernel)
      | (with_reducible first | refine NewP.mk (fun id hid => ?_) | refine NilP.mk (fun e he => ?_))
      | (with_reducible first | exact trivial | exact And.intro rfl rfl)
      | ((with_reducible apply PreP.mk); · exact ab_asked)
      | refine Exists.intro _ (PreP.mk (bytesOf_lst _) ?_)
      | refine PreP.mk (lenD_lst _) ?_
      | (with_reducible first | refine PreP.mk ?_ ?_ | refine BothP.mk ?_ ?_)
      | ((with_reducible apply AncOr.anc); · decide +kernel)
      | with_reducible refine AncOr.go ?_)
    all_goals rfl
  have hc : ¬ (12 : Int) < ((b.rows.map rowRow).length : Int) := by rw [hbl]; omega
  have hb : FitsB b := ⟨hg, h12, hr⟩
  repeat' (first
    | ((with_reducible apply Onw.mk); conv => whnf)
    | (with_reducible first | apply Br.tt | apply Br.ff | apply Br.no)
    | ((with_reducible apply Br.t); · assumption)
    | ((with_reducible apply Br.f); · assumption)
    | ((with_reducible apply Br.dt); · exact ab_known)
    | ((with_reducible apply Br.df); · exact ab_known)
    | (with_reducible first | refine Br.dec (fun hc => ?_) (fun hc => ?_) | refine Br.mk (fun hc => ?_) (fun hc => ?_))
    | (refine CallOK.go (c7 _) (fun r2 H2 hr2 => ?_); obtain ⟨rfl, he2⟩ := hr2; rw [he2]; clear he2 H2)
    | ((with_reducible first | apply NeedRows.mk | apply NeedMap.mk | apply NeedIter.mk); · exact ab_look)
    | ((with_reducible apply NeedLen.mk); · first | assumption | rfl)
    | ((with_reducible apply NeedRow.mk); · exact ab_lookR)
    | ((with_reducible apply DrawG.mk (List.replicate 60 false)); · decide +kernel)
    | (with_reducible first | refine NewP.mk (fun id hid => ?_) | refine NilP.mk (fun e he => ?_))
    | (with_reducible first | exact trivial | exact And.intro rfl rfl)
    | ((with_reducible apply PreP.mk); · exact ab_asked)
    | refine Exists.intro _ (PreP.mk (bytesOf_lst _) ?_)
    | refine PreP.mk (lenD_lst _) ?_
    | (with_reducible first | refine PreP.mk ?_ ?_ | refine BothP.mk ?_ ?_)
    | ((with_reducible apply AncOr.anc); · decide +kernel)
    | with_reducible refine AncOr.go ?_)
  refine CallOK.go (s8g _) (fun r1 H1 hr1 => ?_)
  obtain ⟨r, mid, rfl, h1, hge1, hge2, x1, hx1⟩ := hr1
  have hrow1 : nth H1 id = some (.rows [[.p (.int .i64 b.seq), .p (.int .i64 b.t), .p (.str b.g), .p (.lst (b.rows.map rowRow)), .p (.int .i64 lo)]]) := by rw [hx1]; exact nth_app (nth_new hid)
  have hidne : id ∉ [r, mid] := by
    rw [List.length_append] at hge1 hge2
    simp at hge1 hge2 ⊢; omega
  repeat' (first
    | ((with_reducible apply Onw.mk); conv => whnf)
    | (with_reducible first | apply Br.tt | apply Br.ff | apply Br.no)
    | ((with_reducible apply Br.t); · assumption)
    | ((with_reducible apply Br.f); · assumption)
    | ((with_reducible apply Br.dt); · exact ab_known)
    | ((with_reducible apply Br.df); · exact ab_known)
    | (with_reducible first | refine Br.dec (fun hc => ?_) (fun hc => ?_) | refine Br.mk (fun hc => ?_) (fun hc => ?_))
    | ((with_reducible first | apply NeedRows.mk | apply NeedMap.mk | apply NeedIter.mk); · exact ab_look)
    | ((with_reducible apply NeedLen.mk); · first | assumption | rfl)
    | ((with_reducible apply NeedRow.mk); · exact ab_lookR)
    | ((with_reducible apply DrawG.mk (List.replicate 60 false)); · decide +kernel)
    | (with_reducible first | refine NewP.mk (fun id hid => ?_) | refine NilP.mk (fun e he => ?_))
    | (with_reducible first | exact trivial | exact And.intro rfl rfl)
    | ((with_reducible apply PreP.mk); · exact ab_asked)
    | refine Exists.intro _ (PreP.mk (bytesOf_lst _) ?_)
    | refine PreP.mk (lenD_lst _) ?_
    | (with_reducible first | refine PreP.mk ?_ ?_ | refine BothP.mk ?_ ?_)
    | ((with_reducible apply AncOr.anc); · decide +kernel)
    | with_reducible refine AncOr.go ?_)
  refine Run.keep [(1, .p (.int .u8 n)), (2, .ptr id 0 0), (5, .ptr r 0 0), (6, i64 (1 : Nat))] ⟨rfl, rfl, rfl, rfl, trivial⟩ ?_
  refine Run.rounds (fun (i : Nat) T H2 => ∃ (l : List Bt) (bs : List Nat) (ck : Nat) (low0 : Int), T = [(1, .p (.int .u8 n)), (2, .ptr id 0 0), (5, .ptr r 0 0), (6, i64 i)] ∧ 1 ≤ i ∧ i ≤ k + 1 ∧
    RcG H2 r mid low0 l bs ck ∧ ((i = 1 ∧ low0 = 0) ∨ (2 ≤ i ∧ low0 = 1)) ∧ nth H2 id = some (.rows [[.p (.int .i64 b.seq), .p (.int .i64 b.t), .p (.str b.g), .p (.lst (b.rows.map rowRow)), .p (.int .i64 lo)]]) ∧ l.length ≤ i ∧ (∀ j : Int, j ∈ l.map (·.seq) ↔ 1 ≤ j ∧ j < i)) (fun i => k + 1 - i) ?_ (x := 1)
    ⟨[], [], 0, 0, rfl, Nat.le_refl _, by omega, h1, .inl ⟨rfl, rfl⟩, hrow1, by simp, fun j => by simp <;> omega⟩
  rintro i T H2 ⟨l, bs, ck, low0, rfl, hi1, hi2, h2, hlow0, hrow2, hll, hmem⟩ ih
  have hlow1 : 0 ≤ low0 ∧ low0 ≤ 1 := by omega
  have wi : IntKind.i64.wrap ((i : Int) + 1) = (i + 1 : Nat) := by rw [wrap64 (by omega) (by omega)]; omega
  refine Run.walk hm Try.func6 100 ?_
  have hp5 : (5 : Int) ≠ 0 := by omega
  rcases Nat.lt_or_ge k i with hik | hik
  · have hc1 : ¬ (i : Int) ≤ IntKind.i64.wrap ((n : Int).tmod 5) := by rw [wk]; omega
    obtain rfl : i = k + 1 := by omega
    clear ih
    repeat' (first
      | ((with_reducible apply Onw.mk); conv => whnf)
      | (with_reducible first | apply Br.tt | apply Br.ff | apply Br.no)
      | ((with_reducible apply Br.t); · assumption)
      | ((with_reducible apply Br.f); · assumption)
      | ((with_reducible apply Br.dt); · exact ab_known)
      | ((with_reducible apply Br.df); · exact ab_known)
      | (with_reducible first | refine Br.dec (fun hc => ?_) (fun hc => ?_) | refine Br.mk (fun hc => ?_) (fun hc => ?_))
      | (refine CallOK.go (c14g _ r mid low0 l bs ck h2 (by omega)) (fun r2 H2 hr2 => ?_); obtain ⟨rfl, he2⟩ := hr2; rw [he2]; clear he2 H2)
      | ((with_reducible first | apply NeedRows.mk | apply NeedMap.mk | apply NeedIter.mk); · exact ab_look)
      | ((with_reducible apply NeedLen.mk); · first | assumption | rfl)
      | ((with_reducible apply NeedRow.mk); · exact ab_lookR)
      | ((with_reducible apply DrawG.mk (List.replicate 60 false)); · decide +kernel)
      | (with_reducible first | refine NewP.mk (fun id hid => ?_) | refine NilP.mk (fun e he => ?_))
      | (with_reducible first | exact trivial | exact And.intro rfl rfl)
      | ((with_reducible apply PreP.mk); · exact ab_asked)
      | refine Exists.intro _ (PreP.mk (bytesOf_lst _) ?_)
      | refine PreP.mk (lenD_lst _) ?_
      | (with_reducible first | refine PreP.mk ?_ ?_ | refine BothP.mk ?_ ?_)
      | ((with_reducible apply AncOr.anc); · decide +kernel)
      | with_reducible refine AncOr.go ?_)
    have hmk : ∀ m, MarkIs (l.map (·.seq)) low0 m → m = k := fun m hm => by
      refine hm.eq ?_
      rcases hlow0 with ⟨q1, q2⟩ | ⟨q1, q2⟩
      · exact .inl ⟨q2, by omega⟩
      · refine .inr ⟨by omega, mark_of _ (by omega) (fun j h1 h2 => by rw [hmem]; omega) (by rw [hmem]; omega)⟩
    cases hlok : letterOK b lo with
    | false =>
      refine CallOK.go (CallOK.of_spec (s9gbad _ r b hb lo hlok)) (fun r2 H3 hr3 => ?_)
      obtain ⟨rfl, x3, rfl⟩ := hr3
      have hrow3 := nth_app (l' := x3) hrow2
      have h3 : RcG (H2 ++ x3) r mid low0 l bs ck := h2.keep (by rw [h2.row]; exact nth_app h2.row) (by rw [h2.map]; exact nth_app h2.map)
      have hfall : ∀ x ∈ allB l, FitsB x := fun x hx => (h2.good x (all_mem hx)).toFitsB
      have hlen : (allB l).length ≤ 9223372036854775807 := by
        have : (allB l).length ≤ ((l.map (·.seq)).mergeSort leI).length := List.length_filterMap_le _ _
        rw [List.length_mergeSort, List.length_map] at this; omega
      have heq : eqBs (allB l) (allB l) = true := (eqBs_iff _ _).2 rfl
      repeat' (first
        | ((with_reducible apply Onw.mk); conv => whnf)
        | (with_reducible first | apply Br.tt | apply Br.ff | apply Br.no)
        | ((with_reducible apply Br.t); · assumption)
        | ((with_reducible apply Br.f); · assumption)
        | ((with_reducible apply Br.dt); · exact ab_known)
        | ((with_reducible apply Br.df); · exact ab_known)
        | (with_reducible first | refine Br.dec (fun hc => ?_) (fun hc => ?_) | refine Br.mk (fun hc => ?_) (fun hc => ?_))
        | (refine CallOK.go (c18 _ b hb) (fun r2 H2 hr2 => ?_); obtain ⟨rfl, he2⟩ := hr2; rw [he2]; clear he2 H2)
        | (refine DetCall.go (c18 _ b hb) ?_)
        | (refine CallOK.go (c14g _ r mid low0 l bs ck h3 (by omega)) (fun r2 H2 hr2 => ?_); obtain ⟨rfl, he2⟩ := hr2; rw [he2]; clear he2 H2)
        | (refine DetCall.go (c14g _ r mid low0 l bs ck h3 (by omega)) ?_)
        | (refine CallOK.go (c13 _ (allB l) (allB l) hlen hfall) (fun r2 H2 hr2 => ?_); obtain ⟨rfl, he2⟩ := hr2; rw [he2]; clear he2 H2)
        | (refine DetCall.go (c13 _ (allB l) (allB l) hlen hfall) ?_)
        | ((with_reducible first | apply NeedRows.mk | apply NeedMap.mk | apply NeedIter.mk); · exact ab_look)
        | ((with_reducible apply NeedLen.mk); · first | assumption | rfl)
        | ((with_reducible apply NeedRow.mk); · exact ab_lookR)
        | ((with_reducible apply DrawG.mk (List.replicate 60 false)); · decide +kernel)
        | (with_reducible first | refine NewP.mk (fun id hid => ?_) | refine NilP.mk (fun e he => ?_))
        | (with_reducible first | exact trivial | exact And.intro rfl rfl)
        | ((with_reducible apply PreP.mk); · exact ab_asked)
        | refine Exists.intro _ (PreP.mk (bytesOf_lst _) ?_)
        | refine PreP.mk (lenD_lst _) ?_
        | (with_reducible first | refine PreP.mk ?_ ?_ | refine BothP.mk ?_ ?_)
        | ((with_reducible apply AncOr.anc); · decide +kernel)
        | with_reducible refine AncOr.go ?_)
      all_goals first
        | (exfalso; unfold letterOK at hlok; simp_all; done)
        | (refine CallOK.go (c11g h3 hlow1.1 (by omega)) (fun r2 H4 hr4 => ?_)
           obtain ⟨⟨m, rfl, hm⟩, he4⟩ := hr4
           rw [he4]; clear he4 H4
           obtain rfl := hmk m hm
           repeat' (first
             | ((with_reducible apply Onw.mk); conv => whnf)
             | (with_reducible first | apply Br.tt | apply Br.ff | apply Br.no)
             | ((with_reducible apply Br.t); · assumption)
             | ((with_reducible apply Br.f); · assumption)
             | ((with_reducible apply Br.dt); · exact ab_known)
             | ((with_reducible apply Br.df); · exact ab_known)
             | (with_reducible first | refine Br.dec (fun hc => ?_) (fun hc => ?_) | refine Br.mk (fun hc => ?_) (fun hc => ?_))
             | ((with_reducible first | apply NeedRows.mk | apply NeedMap.mk | apply NeedIter.mk); · exact ab_look)
             | ((with_reducible apply NeedLen.mk); · first | assumption | rfl)
             | ((with_reducible apply NeedRow.mk); · exact ab_lookR)
             | ((with_reducible apply DrawG.mk (List.replicate 60 false)); · decide +kernel)
             | (with_reducible first | refine NewP.mk (fun id hid => ?_) | refine NilP.mk (fun e he => ?_))
             | (with_reducible first | exact trivial | exact And.intro rfl rfl)
             | ((with_reducible apply PreP.mk); · exact ab_asked)
             | refine Exists.intro _ (PreP.mk (bytesOf_lst _) ?_)
             | refine PreP.mk (lenD_lst _) ?_
             | (with_reducible first | refine PreP.mk ?_ ?_ | refine BothP.mk ?_ ?_)
             | ((with_reducible apply AncOr.anc); · decide +kernel)
             | with_reducible refine AncOr.go ?_)
           first
             | rfl
             | exact congrArg boolD (decide_eq_true wk.symm))
    | true =>
      have hlok2 := hlok
      unfold letterOK at hlok2
      simp only [Bool.and_eq_true, decide_eq_true_eq] at hlok2
      obtain ⟨hbo, hl1, hl2⟩ := hlok2
      by_cases hin : b.seq ∈ l.map (·.seq)
      · refine CallOK.go (CallOK.of_spec (s9gin _ r mid low0 l bs ck h2 b hb lo hlok h6 hlow1.1 (by omega) hin)) (fun r2 H3 hr3 => ?_)
        obtain ⟨m, rfl, hm3, h3, hg3⟩ := hr3
        have hrow3 := hg3.out id _ hidne hrow2
        repeat' (first
          | ((with_reducible apply Onw.mk); conv => whnf)
          | (with_reducible first | apply Br.tt | apply Br.ff | apply Br.no)
          | ((with_reducible apply Br.t); · assumption)
          | ((with_reducible apply Br.f); · assumption)
          | ((with_reducible apply Br.dt); · exact ab_known)
          | ((with_reducible apply Br.df); · exact ab_known)
          | (with_reducible first | refine Br.dec (fun hc => ?_) (fun hc => ?_) | refine Br.mk (fun hc => ?_) (fun hc => ?_))
          | (refine CallOK.go (c18 _ b hb) (fun r2 H2 hr2 => ?_); obtain ⟨rfl, he2⟩ := hr2; rw [he2]; clear he2 H2)
          | (refine DetCall.go (c18 _ b hb) ?_)
          | ((with_reducible first | apply NeedRows.mk | apply NeedMap.mk | apply NeedIter.mk); · exact ab_look)
          | ((with_reducible apply NeedLen.mk); · first | assumption | rfl)
          | ((with_reducible apply NeedRow.mk); · exact ab_lookR)
          | ((with_reducible apply DrawG.mk (List.replicate 60 false)); · decide +kernel)
          | (with_reducible first | refine NewP.mk (fun id hid => ?_) | refine NilP.mk (fun e he => ?_))
          | (with_reducible first | exact trivial | exact And.intro rfl rfl)
          | ((with_reducible apply PreP.mk); · exact ab_asked)
          | refine Exists.intro _ (PreP.mk (bytesOf_lst _) ?_)
          | refine PreP.mk (lenD_lst _) ?_
          | (with_reducible first | refine PreP.mk ?_ ?_ | refine BothP.mk ?_ ?_)
          | ((with_reducible apply AncOr.anc); · decide +kernel)
          | with_reducible refine AncOr.go ?_)
        refine CallOK.go (c15gin h3 hin) (fun r2 H4 hr4 => ?_)
        obtain ⟨⟨b4, hb4, hbs4, rfl⟩, he4⟩ := hr4
        rw [he4]; clear he4 H4
        repeat' (first
          | ((with_reducible apply Onw.mk); conv => whnf)
          | (with_reducible first | apply Br.tt | apply Br.ff | apply Br.no)
          | ((with_reducible apply Br.t); · assumption)
          | ((with_reducible apply Br.f); · assumption)
          | ((with_reducible apply Br.dt); · exact ab_known)
          | ((with_reducible apply Br.df); · exact ab_known)
          | (with_reducible first | refine Br.dec (fun hc => ?_) (fun hc => ?_) | refine Br.mk (fun hc => ?_) (fun hc => ?_))
          | ((with_reducible first | apply NeedRows.mk | apply NeedMap.mk | apply NeedIter.mk); · exact ab_look)
          | ((with_reducible apply NeedLen.mk); · first | assumption | rfl)
          | ((with_reducible apply NeedRow.mk); · exact ab_lookR)
          | ((with_reducible apply DrawG.mk (List.replicate 60 false)); · decide +kernel)
          | (with_reducible first | refine NewP.mk (fun id hid => ?_) | refine NilP.mk (fun e he => ?_))
          | (with_reducible first | exact trivial | exact And.intro rfl rfl)
          | ((with_reducible apply PreP.mk); · exact ab_asked)
          | refine Exists.intro _ (PreP.mk (bytesOf_lst _) ?_)
          | refine PreP.mk (lenD_lst _) ?_
          | (with_reducible first | refine PreP.mk ?_ ?_ | refine BothP.mk ?_ ?_)
          | ((with_reducible apply AncOr.anc); · decide +kernel)
          | with_reducible refine AncOr.go ?_)
        all_goals rfl
      · refine CallOK.go (CallOK.of_spec (s9gout _ r mid low0 l bs ck h2 b hb lo hlok h6 hlow1.1 (by omega) hin)) (fun r2 H3 hr3 => ?_)
        obtain ⟨m, bs3, ck3, rfl, hm3, h3, hg3⟩ := hr3
        have hrow3 := hg3.out id _ hidne hrow2
        repeat' (first
          | ((with_reducible apply Onw.mk); conv => whnf)
          | (with_reducible first | apply Br.tt | apply Br.ff | apply Br.no)
          | ((with_reducible apply Br.t); · assumption)
          | ((with_reducible apply Br.f); · assumption)
          | ((with_reducible apply Br.dt); · exact ab_known)
          | ((with_reducible apply Br.df); · exact ab_known)
          | (with_reducible first | refine Br.dec (fun hc => ?_) (fun hc => ?_) | refine Br.mk (fun hc => ?_) (fun hc => ?_))
          | (refine CallOK.go (c18 _ b hb) (fun r2 H2 hr2 => ?_); obtain ⟨rfl, he2⟩ := hr2; rw [he2]; clear he2 H2)
          | (refine DetCall.go (c18 _ b hb) ?_)
          | ((with_reducible first | apply NeedRows.mk | apply NeedMap.mk | apply NeedIter.mk); · exact ab_look)
          | ((with_reducible apply NeedLen.mk); · first | assumption | rfl)
          | ((with_reducible apply NeedRow.mk); · exact ab_lookR)
          | ((with_reducible apply DrawG.mk (List.replicate 60 false)); · decide +kernel)
          | (with_reducible first | refine NewP.mk (fun id hid => ?_) | refine NilP.mk (fun e he => ?_))
          | (with_reducible first | exact trivial | exact And.intro rfl rfl)
          | ((with_reducible apply PreP.mk); · exact ab_asked)
          | refine Exists.intro _ (PreP.mk (bytesOf_lst _) ?_)
          | refine PreP.mk (lenD_lst _) ?_
          | (with_reducible first | refine PreP.mk ?_ ?_ | refine BothP.mk ?_ ?_)
          | ((with_reducible apply AncOr.anc); · decide +kernel)
          | with_reducible refine AncOr.go ?_)
        refine CallOK.go (c15gin h3 (n := b.seq) (by simp)) (fun r2 H4 hr4 => ?_)
        obtain ⟨⟨b4, hb4, hbs4, rfl⟩, he4⟩ := hr4
        rw [he4]; clear he4 H4
        repeat' (first
          | ((with_reducible apply Onw.mk); conv => whnf)
          | (with_reducible first | apply Br.tt | apply Br.ff | apply Br.no)
          | ((with_reducible apply Br.t); · assumption)
          | ((with_reducible apply Br.f); · assumption)
          | ((with_reducible apply Br.dt); · exact ab_known)
          | ((with_reducible apply Br.df); · exact ab_known)
          | (with_reducible first | refine Br.dec (fun hc => ?_) (fun hc => ?_) | refine Br.mk (fun hc => ?_) (fun hc => ?_))
          | ((with_reducible first | apply NeedRows.mk | apply NeedMap.mk | apply NeedIter.mk); · exact ab_look)
          | ((with_reducible apply NeedLen.mk); · first | assumption | rfl)
          | ((with_reducible apply NeedRow.mk); · exact ab_lookR)
          | ((with_reducible apply DrawG.mk (List.replicate 60 false)); · decide +kernel)
          | (with_reducible first | refine NewP.mk (fun id hid => ?_) | refine NilP.mk (fun e he => ?_))
          | (with_reducible first | exact trivial | exact And.intro rfl rfl)
          | ((with_reducible apply PreP.mk); · exact ab_asked)
          | refine Exists.intro _ (PreP.mk (bytesOf_lst _) ?_)
          | refine PreP.mk (lenD_lst _) ?_
          | (with_reducible first | refine PreP.mk ?_ ?_ | refine BothP.mk ?_ ?_)
          | ((with_reducible apply AncOr.anc); · decide +kernel)
          | with_reducible refine AncOr.go ?_)
        all_goals rfl
  · have hc1 : (i : Int) ≤ IntKind.i64.wrap ((n : Int).tmod 5) := by rw [wk]; omega
    repeat' (first
      | ((with_reducible apply Onw.mk); conv => whnf)
      | (with_reducible first | apply Br.tt | apply Br.ff | apply Br.no)
      | ((with_reducible apply Br.t); · assumption)
      | ((with_reducible apply Br.f); · assumption)
      | ((with_reducible apply Br.dt); · exact ab_known)
      | ((with_reducible apply Br.df); · exact ab_known)
      | (with_reducible first | refine Br.dec (fun hc => ?_) (fun hc => ?_) | refine Br.mk (fun hc => ?_) (fun hc => ?_))
      | ((with_reducible first | apply NeedRows.mk | apply NeedMap.mk | apply NeedIter.mk); · exact ab_look)
      | ((with_reducible apply NeedLen.mk); · first | assumption | rfl)
      | ((with_reducible apply NeedRow.mk); · exact ab_lookR)
      | ((with_reducible apply DrawG.mk (List.replicate 60 false)); · decide +kernel)
      | (with_reducible first | refine NewP.mk (fun id hid => ?_) | refine NilP.mk (fun e he => ?_))
      | (with_reducible first | exact trivial | exact And.intro rfl rfl)
      | ((with_reducible apply PreP.mk); · exact ab_asked)
      | refine Exists.intro _ (PreP.mk (bytesOf_lst _) ?_)
      | refine PreP.mk (lenD_lst _) ?_
      | (with_reducible first | refine PreP.mk ?_ ?_ | refine BothP.mk ?_ ?_)
      | ((with_reducible apply AncOr.anc); · decide +kernel)
      | with_reducible refine AncOr.go ?_)
    have hnin : (bare i 0).seq ∉ l.map (·.seq) := by rw [hmem]; simp [bare] <;> omega
    refine CallOK.go (CallOK.args (CallOK.of_spec (s9gout _ r mid low0 l bs ck h2 (bare i 0) (fits_bare _ _) 1 (ok_bare (by omega) (by omega) (by omega)) (by simp [bare]; omega) hlow1.1 (by omega) hnin)) (fun M env vs hv => letter_nil hv)) (fun r2 H3 hr3 => ?_)
    obtain ⟨m, bs3, ck3, rfl, hm3, h3, hg3⟩ := hr3
    have hrow3 := hg3.out id _ hidne hrow2
    repeat' (first
      | ((with_reducible apply Onw.mk); conv => whnf)
      | (with_reducible first | apply Br.tt | apply Br.ff | apply Br.no)
      | ((with_reducible apply Br.t); · assumption)
      | ((with_reducible apply Br.f); · assumption)
      | ((with_reducible apply Br.dt); · exact ab_known)
      | ((with_reducible apply Br.df); · exact ab_known)
      | (with_reducible first | refine Br.dec (fun hc => ?_) (fun hc => ?_) | refine Br.mk (fun hc => ?_) (fun hc => ?_))
      | ((with_reducible first | apply NeedRows.mk | apply NeedMap.mk | apply NeedIter.mk); · exact ab_look)
      | ((with_reducible apply NeedLen.mk); · first | assumption | rfl)
      | ((with_reducible apply NeedRow.mk); · exact ab_lookR)
      | ((with_reducible apply DrawG.mk (List.replicate 60 false)); · decide +kernel)
      | (with_reducible first | refine NewP.mk (fun id hid => ?_) | refine NilP.mk (fun e he => ?_))
      | (with_reducible first | exact trivial | exact And.intro rfl rfl)
      | ((with_reducible apply PreP.mk); · exact ab_asked)
      | refine Exists.intro _ (PreP.mk (bytesOf_lst _) ?_)
      | refine PreP.mk (lenD_lst _) ?_
      | (with_reducible first | refine PreP.mk ?_ ?_ | refine BothP.mk ?_ ?_)
      | ((with_reducible apply AncOr.anc); · decide +kernel)
      | with_reducible refine AncOr.go ?_)
    refine Run.keep _ ?_ (ih (i + 1) _ _ (by omega) ⟨l ++ [bare i 0], bs3, ck3, _, rfl, by omega, by omega, h3, .inr ⟨by omega, by split <;> omega⟩, hrow3, by simp; omega, fun j => ?_⟩)
    · exact ⟨rfl, rfl, rfl, congrArg (fun x => some (i64 x)) wi, trivial⟩
    · rw [List.map_append, List.mem_append, hmem j]; simp [bare]; omega
end Go.Proofs.Ytjlhkbikconboaa
