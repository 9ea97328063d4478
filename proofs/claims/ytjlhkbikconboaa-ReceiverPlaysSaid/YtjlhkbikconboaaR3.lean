/- What functions of the receiver, of labels, rows, batches, and of the laws over them, do. Conditions: those that each theorem names. -/
import Derived.Test.YtjlhkbikconboaaR2
set_option linter.unusedVariables false
set_option linter.unusedSimpArgs false
namespace Go.Proofs.Ytjlhkbikconboaa
open Go.Ab
set_option maxRecDepth 100000
set_option maxHeartbeats 1000000
attribute [local irreducible] Run CallOK DetCall Br PreP BothP AncOr Onw NeedRows NeedMap NeedRow NeedLen NilP NeedIter RoundP EntryP EqP OptP NewP NewSlice NewMade AppTo DrawG anc drawB
theorem c11z {H : Heap} {r mid : Nat} {l : List (Int × Int)} {bs : List Nat} {ck : Nat} (h : RcAt H r mid 0 l bs ck) : CallOK Try.prog 11 [.ptr r 0 0] H (fun r H' => r = i64 0 ∧ H' = H) :=
  (CallOK.trim (Q := fun r => r = i64 0) ((CallOK.of_spec (s11z H r mid l bs ck h)).mono (fun _ _ hr => ⟨hr.2, by rw [hr.1]; rfl, hr.1⟩))).mono (fun _ _ hr => ⟨hr.2.2, hr.1⟩)
theorem IsMark.eq {keys : List Int} {low m m' : Int} (h : IsMark keys low m) (h' : IsMark keys low m') : m = m' := by
  obtain ⟨a1, a2, a3⟩ := h
  obtain ⟨b1, b2, b3⟩ := h'
  rcases Int.lt_trichotomy m m' with q | q | q
  · exact absurd (b2 (m + 1) (by omega) (by omega)) a3
  · exact q
  · exact absurd (a2 (m' + 1) (by omega) (by omega)) b3
theorem c11 {H : Heap} {r mid : Nat} {low : Int} {l : List (Int × Int)} {bs : List Nat} {ck : Nat} (h : RcAt H r mid low l bs ck) (hlow : 1 ≤ low) (hlow2 : low ≤ 1000) (hk : ∀ k ∈ l.map (·.1), k ≤ 1000) :
    CallOK Try.prog 11 [.ptr r 0 0] H (fun r H' => (∃ m, r = i64 m ∧ IsMark (l.map (·.1)) low m) ∧ H' = H) :=
  (CallOK.trim (Q := fun r => ∃ m, r = i64 m ∧ IsMark (l.map (·.1)) low m) ((CallOK.of_spec (s11 H r mid low l bs ck h hlow hlow2 hk)).mono (fun _ _ hr => ⟨hr.2, by obtain ⟨⟨m, rfl, _⟩, _⟩ := hr; rfl, hr.1⟩))).mono (fun _ _ hr => ⟨hr.2.2, hr.1⟩)
theorem s8 (H : Heap) : Ab.Spec Try.prog 8 [] H (fun res H' => ∃ r mid, res = .ptr r 0 0 ∧ RcAt H' r mid 0 [] [] 0 ∧ H.length ≤ r ∧ H.length ≤ mid ∧ ∃ x, H' = H ++ x) := by
  refine Ab.Spec.walk hm Try.func8 (by kernel_rfl) 60 ?_
  repeat' (first
    | ((with_reducible apply Onw.mk); conv => whnf)
    | (with_reducible first | apply Br.tt | apply Br.ff | apply Br.no)
    | ((with_reducible apply Br.t); · assumption)
    | ((with_reducible apply Br.f); · assumption)
    | ((with_reducible apply Br.dt); · exact ab_known)
    | ((with_reducible apply Br.df); · exact ab_known)
    | (with_reducible first | refine Br.dec (fun hc => ?_) (fun hc => ?_) | refine Br.mk (fun hc => ?_) (fun hc => ?_))
    | ((with_reducible first | apply NeedRows.mk | apply NeedMap.mk | apply NeedIter.mk); · exact ab_look)
    | ((with_reducible apply NeedLen.mk); · first | assumption | rfl)
    | ((with_reducible apply NeedRow.mk); · exact ab_lookR)
    | ((with_reducible apply DrawG.mk (List.replicate 60 false)); · decide +kernel)
    | (with_reducible first | refine NewP.mk (fun id hid => ?_) | refine NilP.mk (fun e he => ?_))
    | (with_reducible first | exact trivial | exact And.intro rfl rfl)
    | ((with_reducible apply PreP.mk); · exact ab_asked)
    | refine Exists.intro _ (PreP.mk (bytesOf_lst _) ?_)
    | refine PreP.mk (lenD_lst _) ?_
    | (with_reducible first | refine PreP.mk ?_ ?_ | refine BothP.mk ?_ ?_)
    | ((with_reducible apply AncOr.anc); · decide +kernel)
    | with_reducible refine AncOr.go ?_)
  rename_i id0 hid0
  refine ⟨id, id0, rfl, ⟨nth_new hid, nth_app (nth_new hid0), ⟨by simp, by simp, by simp⟩, by rw [hid, hid0]; simp, by simp⟩, by rw [hid]; simp, by omega, ⟨_, List.append_assoc _ _ _⟩⟩
/-- A letter: a batch, the least number. -/
def letP (s t : Int) (e : P) (lo : Int) : P := .agg [.int .i64 s, .int .i64 t, .str [103], e, .int .i64 lo]
theorem s9bad (H : Heap) (r : Nat) (s t : Int) (e : P) (lo : Int) (he : NoRows e) (h1 : 0 < s) (h2 : 0 ≤ t) (h3 : t ≤ 1000000) (h4 : 1 ≤ lo) (h5 : s < lo) :
    Ab.Spec Try.prog 9 [.ptr r 0 0, .p (letP s t e lo)] H (fun res H' => res = .tup [i64 0, i64 12] ∧ ∃ x, H' = H ++ x) := by
  have h4' : ¬ lo < 1 := by omega
  refine Ab.Spec.walk hm Try.func9 (by kernel_rfl) 100 ?_
  rcases he with rfl | rfl
  · have he : NoRows .nil := .inl rfl
    repeat' (first
      | ((with_reducible apply Onw.mk); conv => whnf)
      | (with_reducible first | apply Br.tt | apply Br.ff | apply Br.no)
      | ((with_reducible apply Br.t); · assumption)
      | ((with_reducible apply Br.f); · assumption)
      | ((with_reducible apply Br.dt); · exact ab_known)
      | ((with_reducible apply Br.df); · exact ab_known)
      | (with_reducible first | refine Br.dec (fun hc => ?_) (fun hc => ?_) | refine Br.mk (fun hc => ?_) (fun hc => ?_))
      | ((with_reducible first | apply NeedRows.mk | apply NeedMap.mk | apply NeedIter.mk); · exact ab_look)
      | ((with_reducible apply NeedLen.mk); · first | assumption | rfl)
      | ((with_reducible apply NeedRow.mk); · exact ab_lookR)
      | ((with_reducible apply DrawG.mk (List.replicate 60 false)); · decide +kernel)
      | (with_reducible first | refine NewP.mk (fun id hid => ?_) | refine NilP.mk (fun e he => ?_))
      | (with_reducible first | exact trivial | exact And.intro rfl rfl)
      | ((with_reducible apply PreP.mk); · exact ab_asked)
      | refine Exists.intro _ (PreP.mk (bytesOf_lst _) ?_)
      | refine PreP.mk (lenD_lst _) ?_
      | (with_reducible first | refine PreP.mk ?_ ?_ | refine BothP.mk ?_ ?_)
      | ((with_reducible apply AncOr.anc); · decide +kernel)
      | with_reducible refine AncOr.go ?_)
    refine CallOK.go (c19 _ s t _ he h1 h2 h3) (fun r2 H2 hr => ?_)
    obtain ⟨rfl, rfl⟩ := hr
    repeat' (first
      | ((with_reducible apply Onw.mk); conv => whnf)
      | (with_reducible first | apply Br.tt | apply Br.ff | apply Br.no)
      | ((with_reducible apply Br.t); · assumption)
      | ((with_reducible apply Br.f); · assumption)
      | ((with_reducible apply Br.dt); · exact ab_known)
      | ((with_reducible apply Br.df); · exact ab_known)
      | (with_reducible first | refine Br.dec (fun hc => ?_) (fun hc => ?_) | refine Br.mk (fun hc => ?_) (fun hc => ?_))
      | ((with_reducible first | apply NeedRows.mk | apply NeedMap.mk | apply NeedIter.mk); · exact ab_look)
      | ((with_reducible apply NeedLen.mk); · first | assumption | rfl)
      | ((with_reducible apply NeedRow.mk); · exact ab_lookR)
      | ((with_reducible apply DrawG.mk (List.replicate 60 false)); · decide +kernel)
      | (with_reducible first | refine NewP.mk (fun id hid => ?_) | refine NilP.mk (fun e he => ?_))
      | (with_reducible first | exact trivial | exact And.intro rfl rfl)
      | ((with_reducible apply PreP.mk); · exact ab_asked)
      | refine Exists.intro _ (PreP.mk (bytesOf_lst _) ?_)
      | refine PreP.mk (lenD_lst _) ?_
      | (with_reducible first | refine PreP.mk ?_ ?_ | refine BothP.mk ?_ ?_)
      | ((with_reducible apply AncOr.anc); · decide +kernel)
      | with_reducible refine AncOr.go ?_)
    exact ⟨rfl, _, rfl⟩
  · have he : NoRows (.lst []) := .inr rfl
    repeat' (first
      | ((with_reducible apply Onw.mk); conv => whnf)
      | (with_reducible first | apply Br.tt | apply Br.ff | apply Br.no)
      | ((with_reducible apply Br.t); · assumption)
      | ((with_reducible apply Br.f); · assumption)
      | ((with_reducible apply Br.dt); · exact ab_known)
      | ((with_reducible apply Br.df); · exact ab_known)
      | (with_reducible first | refine Br.dec (fun hc => ?_) (fun hc => ?_) | refine Br.mk (fun hc => ?_) (fun hc => ?_))
      | ((with_reducible first | apply NeedRows.mk | apply NeedMap.mk | apply NeedIter.mk); · exact ab_look)
      | ((with_reducible apply NeedLen.mk); · first | assumption | rfl)
      | ((with_reducible apply NeedRow.mk); · exact ab_lookR)
      | ((with_reducible apply DrawG.mk (List.replicate 60 false)); · decide +kernel)
      | (with_reducible first | refine NewP.mk (fun id hid => ?_) | refine NilP.mk (fun e he => ?_))
      | (with_reducible first | exact trivial | exact And.intro rfl rfl)
      | ((with_reducible apply PreP.mk); · exact ab_asked)
      | refine Exists.intro _ (PreP.mk (bytesOf_lst _) ?_)
      | refine PreP.mk (lenD_lst _) ?_
      | (with_reducible first | refine PreP.mk ?_ ?_ | refine BothP.mk ?_ ?_)
      | ((with_reducible apply AncOr.anc); · decide +kernel)
      | with_reducible refine AncOr.go ?_)
    refine CallOK.go (c19 _ s t _ he h1 h2 h3) (fun r2 H2 hr => ?_)
    obtain ⟨rfl, rfl⟩ := hr
    repeat' (first
      | ((with_reducible apply Onw.mk); conv => whnf)
      | (with_reducible first | apply Br.tt | apply Br.ff | apply Br.no)
      | ((with_reducible apply Br.t); · assumption)
      | ((with_reducible apply Br.f); · assumption)
      | ((with_reducible apply Br.dt); · exact ab_known)
      | ((with_reducible apply Br.df); · exact ab_known)
      | (with_reducible first | refine Br.dec (fun hc => ?_) (fun hc => ?_) | refine Br.mk (fun hc => ?_) (fun hc => ?_))
      | ((with_reducible first | apply NeedRows.mk | apply NeedMap.mk | apply NeedIter.mk); · exact ab_look)
      | ((with_reducible apply NeedLen.mk); · first | assumption | rfl)
      | ((with_reducible apply NeedRow.mk); · exact ab_lookR)
      | ((with_reducible apply DrawG.mk (List.replicate 60 false)); · decide +kernel)
      | (with_reducible first | refine NewP.mk (fun id hid => ?_) | refine NilP.mk (fun e he => ?_))
      | (with_reducible first | exact trivial | exact And.intro rfl rfl)
      | ((with_reducible apply PreP.mk); · exact ab_asked)
      | refine Exists.intro _ (PreP.mk (bytesOf_lst _) ?_)
      | refine PreP.mk (lenD_lst _) ?_
      | (with_reducible first | refine PreP.mk ?_ ?_ | refine BothP.mk ?_ ?_)
      | ((with_reducible apply AncOr.anc); · decide +kernel)
      | with_reducible refine AncOr.go ?_)
    exact ⟨rfl, _, rfl⟩
theorem s9 (H : Heap) (r mid : Nat) (low : Int) (l : List (Int × Int)) (bs : List Nat) (ck : Nat) (h : RcAt H r mid low l bs ck) (s t : Int) (e : P) (lo : Int) (he : NoRows e) (h1 : 0 < s) (h2 : 0 ≤ t) (h3 : t ≤ 1000000) (h4 : 1 ≤ lo) (h5 : lo ≤ s) (h6 : s ≤ 1000) (h7 : 0 ≤ low) (h8 : low ≤ 1000) (hk : ∀ k ∈ l.map (·.1), k ≤ 1000) :
    Ab.Spec Try.prog 9 [.ptr r 0 0, .p (letP s t e lo)] H (fun res H' => ∃ m bs' ck', res = .tup [i64 m, i64 0] ∧ IsMark ((if s ∈ l.map (·.1) then l else l ++ [(s, t)]).map (·.1)) (if low < lo then lo else low) m ∧
      RcAt H' r mid (if low < lo then lo else low) (if s ∈ l.map (·.1) then l else l ++ [(s, t)]) bs' ck' ∧ Goes H [r, mid] H' [r, mid]) := by
  have h4' : ¬ lo < 1 := by omega
  have h5' : ¬ s < lo := by omega
  have hr1 := h.row
  have hr2 := h.map
  have hne := h.ne
  have hlt1 := nth_lt hr1
  have hlt2 := nth_lt hr2
  have hpk : ∀ n : Int, keysOk (.int .i64) (l.map entR) ∧ keyOk (.int .i64) (.int .i64 n) = true := fun n => ⟨keysOk_ent l, rfl⟩
  refine Ab.Spec.walk hm Try.func9 (by kernel_rfl) 100 ?_
  rcases he with rfl | rfl
  · have he : NoRows .nil := .inl rfl
    by_cases hin : s ∈ l.map (·.1)
    · obtain ⟨t0, ht0, hlk⟩ := lookE_in hin
      rw [if_pos hin]
      repeat' (first
        | ((with_reducible apply Onw.mk); conv => whnf)
        | (with_reducible first | apply Br.tt | apply Br.ff | apply Br.no)
        | ((with_reducible apply Br.t); · assumption)
        | ((with_reducible apply Br.f); · assumption)
        | ((with_reducible apply Br.dt); · exact ab_known)
        | ((with_reducible apply Br.df); · exact ab_known)
        | (with_reducible first | refine Br.dec (fun hc => ?_) (fun hc => ?_) | refine Br.mk (fun hc => ?_) (fun hc => ?_))
        | ((with_reducible first | apply NeedRows.mk | apply NeedMap.mk | apply NeedIter.mk); · exact ab_look)
        | ((with_reducible apply NeedLen.mk); · first | assumption | rfl)
        | ((with_reducible apply NeedRow.mk); · exact ab_lookR)
        | ((with_reducible apply DrawG.mk (List.replicate 60 false)); · decide +kernel)
        | (with_reducible first | refine NewP.mk (fun id hid => ?_) | refine NilP.mk (fun e he => ?_))
        | (with_reducible first | exact trivial | exact And.intro rfl rfl)
        | ((with_reducible apply PreP.mk); · exact ab_asked)
        | refine Exists.intro _ (PreP.mk (bytesOf_lst _) ?_)
        | refine PreP.mk (lenD_lst _) ?_
        | (with_reducible first | refine PreP.mk ?_ ?_ | refine BothP.mk ?_ ?_)
        | ((with_reducible apply AncOr.anc); · decide +kernel)
        | with_reducible refine AncOr.go ?_)
      refine CallOK.go (c19 _ s t _ he h1 h2 h3) (fun r2 H2 hr => ?_)
      obtain ⟨rfl, rfl⟩ := hr
      repeat' (first
        | ((with_reducible apply Onw.mk); conv => whnf)
        | (with_reducible first | apply Br.tt | apply Br.ff | apply Br.no)
        | ((with_reducible apply Br.t); · assumption)
        | ((with_reducible apply Br.f); · assumption)
        | ((with_reducible apply Br.dt); · exact ab_known)
        | ((with_reducible apply Br.df); · exact ab_known)
        | (with_reducible first | refine Br.dec (fun hc => ?_) (fun hc => ?_) | refine Br.mk (fun hc => ?_) (fun hc => ?_))
        | ((with_reducible apply DrawG.len [false, false, false, false, false, false, false, false, false, false, false, true, true, false]); · decide +kernel)
        | ((with_reducible apply DrawG.len [false, false, false, false, false, false, false, false, false, false, true]); · decide +kernel)
        | (refine PreP.mk (hpk _) ?_)
        | (refine OptP.some hlk ?_)
        | ((with_reducible first | apply NeedRows.mk | apply NeedMap.mk | apply NeedIter.mk); · exact ab_look)
        | ((with_reducible apply NeedLen.mk); · first | assumption | rfl)
        | ((with_reducible apply NeedRow.mk); · exact ab_lookR)
        | ((with_reducible apply DrawG.mk (List.replicate 60 false)); · decide +kernel)
        | (with_reducible first | refine NewP.mk (fun id hid => ?_) | refine NilP.mk (fun e he => ?_))
        | (with_reducible first | exact trivial | exact And.intro rfl rfl)
        | ((with_reducible apply PreP.mk); · exact ab_asked)
        | refine Exists.intro _ (PreP.mk (bytesOf_lst _) ?_)
        | refine PreP.mk (lenD_lst _) ?_
        | (with_reducible first | refine PreP.mk ?_ ?_ | refine BothP.mk ?_ ?_)
        | ((with_reducible apply AncOr.anc); · decide +kernel)
        | with_reducible refine AncOr.go ?_)
      rename_i id0 hid0
      rw [List.length_append] at hid
      simp only [List.length_cons, List.length_nil] at hid
      refine CallOK.go (c11 (low := if low < lo then lo else low) (l := l) (bs := bs) (ck := ck) (mid := mid) ?_ ?_ ?_ hk) (fun r2 H2 hr => ?_)
      · exact ⟨nth_setN_same (x := .rows [[.mp mid, i64 low]]) ab_look, ab_look, h.ok, hne, h.keys⟩
      · split <;> omega
      · split <;> omega
      obtain ⟨⟨m, rfl, hm2⟩, rfl⟩ := hr
      repeat' (first
        | ((with_reducible apply Onw.mk); conv => whnf)
        | (with_reducible first | apply Br.tt | apply Br.ff | apply Br.no)
        | ((with_reducible apply Br.t); · assumption)
        | ((with_reducible apply Br.f); · assumption)
        | ((with_reducible apply Br.dt); · exact ab_known)
        | ((with_reducible apply Br.df); · exact ab_known)
        | (with_reducible first | refine Br.dec (fun hc => ?_) (fun hc => ?_) | refine Br.mk (fun hc => ?_) (fun hc => ?_))
        | ((with_reducible first | apply NeedRows.mk | apply NeedMap.mk | apply NeedIter.mk); · exact ab_look)
        | ((with_reducible apply NeedLen.mk); · first | assumption | rfl)
        | ((with_reducible apply NeedRow.mk); · exact ab_lookR)
        | ((with_reducible apply DrawG.mk (List.replicate 60 false)); · decide +kernel)
        | (with_reducible first | refine NewP.mk (fun id hid => ?_) | refine NilP.mk (fun e he => ?_))
        | (with_reducible first | exact trivial | exact And.intro rfl rfl)
        | ((with_reducible apply PreP.mk); · exact ab_asked)
        | refine Exists.intro _ (PreP.mk (bytesOf_lst _) ?_)
        | refine PreP.mk (lenD_lst _) ?_
        | (with_reducible first | refine PreP.mk ?_ ?_ | refine BothP.mk ?_ ?_)
        | ((with_reducible apply AncOr.anc); · decide +kernel)
        | with_reducible refine AncOr.go ?_)
      refine ⟨m, bs, ck, rfl, hm2, ⟨nth_setN_same (x := .rows [[.mp mid, i64 low]]) ab_look, ab_look, h.ok, hne, h.keys⟩, ⟨fun j o hj ho => ?_, fun _ hj => .inl hj, by simp only [setN_length, List.length_append, List.length_cons, List.length_nil]; omega⟩⟩
      have hlj := nth_lt ho
      simp only [List.mem_cons, List.not_mem_nil, or_false, not_or] at hj
      exact nth_setN_ne (by omega) (nth_setN_ne (by omega) (nth_app (nth_app ho)))
    · have hlk := lookE_out hin
      have hup := updE_out (t := t) hin
      have hok := h.ok.upd (.int .i64 s) (.p (batP s t (.lst [])))
      rw [hup] at hok
      have hkeys : ((l ++ [(s, t)]).map (·.1)).Nodup := by
        rw [List.map_append, List.nodup_append]
        exact ⟨h.keys, by simp, fun a ha b hb e => by simp at hb; subst hb; subst e; exact hin ha⟩
      have hk2 : ∀ k ∈ (l ++ [(s, t)]).map (·.1), k ≤ 1000 := fun k hkk => by
        rw [List.map_append, List.mem_append] at hkk
        rcases hkk with q | q
        · exact hk k q
        · simp at q; omega
      rw [if_neg hin]
      repeat' (first
        | ((with_reducible apply Onw.mk); conv => whnf)
        | (with_reducible first | apply Br.tt | apply Br.ff | apply Br.no)
        | ((with_reducible apply Br.t); · assumption)
        | ((with_reducible apply Br.f); · assumption)
        | ((with_reducible apply Br.dt); · exact ab_known)
        | ((with_reducible apply Br.df); · exact ab_known)
        | (with_reducible first | refine Br.dec (fun hc => ?_) (fun hc => ?_) | refine Br.mk (fun hc => ?_) (fun hc => ?_))
        | ((with_reducible first | apply NeedRows.mk | apply NeedMap.mk | apply NeedIter.mk); · exact ab_look)
        | ((with_reducible apply NeedLen.mk); · first | assumption | rfl)
        | ((with_reducible apply NeedRow.mk); · exact ab_lookR)
        | ((with_reducible apply DrawG.mk (List.replicate 60 false)); · decide +kernel)
        | (with_reducible first | refine NewP.mk (fun id hid => ?_) | refine NilP.mk (fun e he => ?_))
        | (with_reducible first | exact trivial | exact And.intro rfl rfl)
        | ((with_reducible apply PreP.mk); · exact ab_asked)
        | refine Exists.intro _ (PreP.mk (bytesOf_lst _) ?_)
        | refine PreP.mk (lenD_lst _) ?_
        | (with_reducible first | refine PreP.mk ?_ ?_ | refine BothP.mk ?_ ?_)
        | ((with_reducible apply AncOr.anc); · decide +kernel)
        | with_reducible refine AncOr.go ?_)
      refine CallOK.go (c19 _ s t _ he h1 h2 h3) (fun r2 H2 hr => ?_)
      obtain ⟨rfl, rfl⟩ := hr
      repeat' (first
        | ((with_reducible apply Onw.mk); conv => whnf)
        | (with_reducible first | apply Br.tt | apply Br.ff | apply Br.no)
        | ((with_reducible apply Br.t); · assumption)
        | ((with_reducible apply Br.f); · assumption)
        | ((with_reducible apply Br.dt); · exact ab_known)
        | ((with_reducible apply Br.df); · exact ab_known)
        | (with_reducible first | refine Br.dec (fun hc => ?_) (fun hc => ?_) | refine Br.mk (fun hc => ?_) (fun hc => ?_))
        | ((with_reducible apply DrawG.len [false, false, false, false, false, false, false, false, false, false, false, true, true, false]); · decide +kernel)
        | ((with_reducible apply DrawG.len [false, false, false, false, false, false, false, false, false, false, true]); · decide +kernel)
        | (refine PreP.mk (hpk _) ?_)
        | (refine OptP.none hlk ?_)
        | (refine DetCall.go (c20 _ s t [103] _ he) ?_)
        | ((with_reducible first | apply NeedRows.mk | apply NeedMap.mk | apply NeedIter.mk); · exact ab_look)
        | ((with_reducible apply NeedLen.mk); · first | assumption | rfl)
        | ((with_reducible apply NeedRow.mk); · exact ab_lookR)
        | ((with_reducible apply DrawG.mk (List.replicate 60 false)); · decide +kernel)
        | (with_reducible first | refine NewP.mk (fun id hid => ?_) | refine NilP.mk (fun e he => ?_))
        | (with_reducible first | exact trivial | exact And.intro rfl rfl)
        | ((with_reducible apply PreP.mk); · exact ab_asked)
        | refine Exists.intro _ (PreP.mk (bytesOf_lst _) ?_)
        | refine PreP.mk (lenD_lst _) ?_
        | (with_reducible first | refine PreP.mk ?_ ?_ | refine BothP.mk ?_ ?_)
        | ((with_reducible apply AncOr.anc); · decide +kernel)
        | with_reducible refine AncOr.go ?_)
      rename_i id0 hid0
      rw [List.length_append] at hid
      simp only [List.length_cons, List.length_nil] at hid
      rw [hup]
      refine CallOK.go (c11 (low := if low < lo then lo else low) (l := l ++ [(s, t)]) (bs := updB (l.map entR) (.int .i64 s) bs ck) (ck := updC (l.map entR) (.int .i64 s) ck) (mid := mid) ?_ ?_ ?_ hk2) (fun r2 H2 hr => ?_)
      · exact ⟨nth_setN_same (x := .rows [[.mp mid, i64 low]]) ab_look, nth_setN_ne hne ab_look, hok, hne, hkeys⟩
      · split <;> omega
      · split <;> omega
      obtain ⟨⟨m, rfl, hm2⟩, rfl⟩ := hr
      repeat' (first
        | ((with_reducible apply Onw.mk); conv => whnf)
        | (with_reducible first | apply Br.tt | apply Br.ff | apply Br.no)
        | ((with_reducible apply Br.t); · assumption)
        | ((with_reducible apply Br.f); · assumption)
        | ((with_reducible apply Br.dt); · exact ab_known)
        | ((with_reducible apply Br.df); · exact ab_known)
        | (with_reducible first | refine Br.dec (fun hc => ?_) (fun hc => ?_) | refine Br.mk (fun hc => ?_) (fun hc => ?_))
        | ((with_reducible first | apply NeedRows.mk | apply NeedMap.mk | apply NeedIter.mk); · exact ab_look)
        | ((with_reducible apply NeedLen.mk); · first | assumption | rfl)
        | ((with_reducible apply NeedRow.mk); · exact ab_lookR)
        | ((with_reducible apply DrawG.mk (List.replicate 60 false)); · decide +kernel)
        | (with_reducible first | refine NewP.mk (fun id hid => ?_) | refine NilP.mk (fun e he => ?_))
        | (with_reducible first | exact trivial | exact And.intro rfl rfl)
        | ((with_reducible apply PreP.mk); · exact ab_asked)
        | refine Exists.intro _ (PreP.mk (bytesOf_lst _) ?_)
        | refine PreP.mk (lenD_lst _) ?_
        | (with_reducible first | refine PreP.mk ?_ ?_ | refine BothP.mk ?_ ?_)
        | ((with_reducible apply AncOr.anc); · decide +kernel)
        | with_reducible refine AncOr.go ?_)
      refine ⟨m, _, _, rfl, hm2, ⟨nth_setN_same (x := .rows [[.mp mid, i64 low]]) ab_look, nth_setN_ne hne ab_look, hok, hne, hkeys⟩, ⟨fun j o hj ho => ?_, fun _ hj => .inl hj, by simp only [setN_length, List.length_append, List.length_cons, List.length_nil]; omega⟩⟩
      have hlj := nth_lt ho
      simp only [List.mem_cons, List.not_mem_nil, or_false, not_or] at hj
      exact nth_setN_ne (by omega) (nth_setN_ne (by omega) (nth_setN_ne (by omega) (nth_app (nth_app ho))))
  · have he : NoRows (.lst []) := .inr rfl
    by_cases hin : s ∈ l.map (·.1)
    · obtain ⟨t0, ht0, hlk⟩ := lookE_in hin
      rw [if_pos hin]
      repeat' (first
        | ((with_reducible apply Onw.mk); conv => whnf)
        | (with_reducible first | apply Br.tt | apply Br.ff | apply Br.no)
        | ((with_reducible apply Br.t); · assumption)
        | ((with_reducible apply Br.f); · assumption)
        | ((with_reducible apply Br.dt); · exact ab_known)
        | ((with_reducible apply Br.df); · exact ab_known)
        | (with_reducible first | refine Br.dec (fun hc => ?_) (fun hc => ?_) | refine Br.mk (fun hc => ?_) (fun hc => ?_))
        | ((with_reducible first | apply NeedRows.mk | apply NeedMap.mk | apply NeedIter.mk); · exact ab_look)
        | ((with_reducible apply NeedLen.mk); · first | assumption | rfl)
        | ((with_reducible apply NeedRow.mk); · exact ab_lookR)
        | ((with_reducible apply DrawG.mk (List.replicate 60 false)); · decide +kernel)
        | (with_reducible first | refine NewP.mk (fun id hid => ?_) | refine NilP.mk (fun e he => ?_))
        | (with_reducible first | exact trivial | exact And.intro rfl rfl)
        | ((with_reducible apply PreP.mk); · exact ab_asked)
        | refine Exists.intro _ (PreP.mk (bytesOf_lst _) ?_)
        | refine PreP.mk (lenD_lst _) ?_
        | (with_reducible first | refine PreP.mk ?_ ?_ | refine BothP.mk ?_ ?_)
        | ((with_reducible apply AncOr.anc); · decide +kernel)
        | with_reducible refine AncOr.go ?_)
      refine CallOK.go (c19 _ s t _ he h1 h2 h3) (fun r2 H2 hr => ?_)
      obtain ⟨rfl, rfl⟩ := hr
      repeat' (first
        | ((with_reducible apply Onw.mk); conv => whnf)
        | (with_reducible first | apply Br.tt | apply Br.ff | apply Br.no)
        | ((with_reducible apply Br.t); · assumption)
        | ((with_reducible apply Br.f); · assumption)
        | ((with_reducible apply Br.dt); · exact ab_known)
        | ((with_reducible apply Br.df); · exact ab_known)
        | (with_reducible first | refine Br.dec (fun hc => ?_) (fun hc => ?_) | refine Br.mk (fun hc => ?_) (fun hc => ?_))
        | ((with_reducible apply DrawG.len [false, false, false, false, false, false, false, false, false, false, false, true, true, false]); · decide +kernel)
        | ((with_reducible apply DrawG.len [false, false, false, false, false, false, false, false, false, false, true]); · decide +kernel)
        | (refine PreP.mk (hpk _) ?_)
        | (refine OptP.some hlk ?_)
        | ((with_reducible first | apply NeedRows.mk | apply NeedMap.mk | apply NeedIter.mk); · exact ab_look)
        | ((with_reducible apply NeedLen.mk); · first | assumption | rfl)
        | ((with_reducible apply NeedRow.mk); · exact ab_lookR)
        | ((with_reducible apply DrawG.mk (List.replicate 60 false)); · decide +kernel)
        | (with_reducible first | refine NewP.mk (fun id hid => ?_) | refine NilP.mk (fun e he => ?_))
        | (with_reducible first | exact trivial | exact And.intro rfl rfl)
        | ((with_reducible apply PreP.mk); · exact ab_asked)
        | refine Exists.intro _ (PreP.mk (bytesOf_lst _) ?_)
        | refine PreP.mk (lenD_lst _) ?_
        | (with_reducible first | refine PreP.mk ?_ ?_ | refine BothP.mk ?_ ?_)
        | ((with_reducible apply AncOr.anc); · decide +kernel)
        | with_reducible refine AncOr.go ?_)
      rename_i id0 hid0
      rw [List.length_append] at hid
      simp only [List.length_cons, List.length_nil] at hid
      refine CallOK.go (c11 (low := if low < lo then lo else low) (l := l) (bs := bs) (ck := ck) (mid := mid) ?_ ?_ ?_ hk) (fun r2 H2 hr => ?_)
      · exact ⟨nth_setN_same (x := .rows [[.mp mid, i64 low]]) ab_look, ab_look, h.ok, hne, h.keys⟩
      · split <;> omega
      · split <;> omega
      obtain ⟨⟨m, rfl, hm2⟩, rfl⟩ := hr
      repeat' (first
        | ((with_reducible apply Onw.mk); conv => whnf)
        | (with_reducible first | apply Br.tt | apply Br.ff | apply Br.no)
        | ((with_reducible apply Br.t); · assumption)
        | ((with_reducible apply Br.f); · assumption)
        | ((with_reducible apply Br.dt); · exact ab_known)
        | ((with_reducible apply Br.df); · exact ab_known)
        | (with_reducible first | refine Br.dec (fun hc => ?_) (fun hc => ?_) | refine Br.mk (fun hc => ?_) (fun hc => ?_))
        | ((with_reducible first | apply NeedRows.mk | apply NeedMap.mk | apply NeedIter.mk); · exact ab_look)
        | ((with_reducible apply NeedLen.mk); · first | assumption | rfl)
        | ((with_reducible apply NeedRow.mk); · exact ab_lookR)
        | ((with_reducible apply DrawG.mk (List.replicate 60 false)); · decide +kernel)
        | (with_reducible first | refine NewP.mk (fun id hid => ?_) | refine NilP.mk (fun e he => ?_))
        | (with_reducible first | exact trivial | exact And.intro rfl rfl)
        | ((with_reducible apply PreP.mk); · exact ab_asked)
        | refine Exists.intro _ (PreP.mk (bytesOf_lst _) ?_)
        | refine PreP.mk (lenD_lst _) ?_
        | (with_reducible first | refine PreP.mk ?_ ?_ | refine BothP.mk ?_ ?_)
        | ((with_reducible apply AncOr.anc); · decide +kernel)
        | with_reducible refine AncOr.go ?_)
      refine ⟨m, bs, ck, rfl, hm2, ⟨nth_setN_same (x := .rows [[.mp mid, i64 low]]) ab_look, ab_look, h.ok, hne, h.keys⟩, ⟨fun j o hj ho => ?_, fun _ hj => .inl hj, by simp only [setN_length, List.length_append, List.length_cons, List.length_nil]; omega⟩⟩
      have hlj := nth_lt ho
      simp only [List.mem_cons, List.not_mem_nil, or_false, not_or] at hj
      exact nth_setN_ne (by omega) (nth_setN_ne (by omega) (nth_app (nth_app ho)))
    · have hlk := lookE_out hin
      have hup := updE_out (t := t) hin
      have hok := h.ok.upd (.int .i64 s) (.p (batP s t (.lst [])))
      rw [hup] at hok
      have hkeys : ((l ++ [(s, t)]).map (·.1)).Nodup := by
        rw [List.map_append, List.nodup_append]
        exact ⟨h.keys, by simp, fun a ha b hb e => by simp at hb; subst hb; subst e; exact hin ha⟩
      have hk2 : ∀ k ∈ (l ++ [(s, t)]).map (·.1), k ≤ 1000 := fun k hkk => by
        rw [List.map_append, List.mem_append] at hkk
        rcases hkk with q | q
        · exact hk k q
        · simp at q; omega
      rw [if_neg hin]
      repeat' (first
        | ((with_reducible apply Onw.mk); conv => whnf)
        | (with_reducible first | apply Br.tt | apply Br.ff | apply Br.no)
        | ((with_reducible apply Br.t); · assumption)
        | ((with_reducible apply Br.f); · assumption)
        | ((with_reducible apply Br.dt); · exact ab_known)
        | ((with_reducible apply Br.df); · exact ab_known)
        | (with_reducible first | refine Br.dec (fun hc => ?_) (fun hc => ?_) | refine Br.mk (fun hc => ?_) (fun hc => ?_))
        | ((with_reducible first | apply NeedRows.mk | apply NeedMap.mk | apply NeedIter.mk); · exact ab_look)
        | ((with_reducible apply NeedLen.mk); · first | assumption | rfl)
        | ((with_reducible apply NeedRow.mk); · exact ab_lookR)
        | ((with_reducible apply DrawG.mk (List.replicate 60 false)); · decide +kernel)
        | (with_reducible first | refine NewP.mk (fun id hid => ?_) | refine NilP.mk (fun e he => ?_))
        | (with_reducible first | exact trivial | exact And.intro rfl rfl)
        | ((with_reducible apply PreP.mk); · exact ab_asked)
        | refine Exists.intro _ (PreP.mk (bytesOf_lst _) ?_)
        | refine PreP.mk (lenD_lst _) ?_
        | (with_reducible first | refine PreP.mk ?_ ?_ | refine BothP.mk ?_ ?_)
        | ((with_reducible apply AncOr.anc); · decide +kernel)
        | with_reducible refine AncOr.go ?_)
      refine CallOK.go (c19 _ s t _ he h1 h2 h3) (fun r2 H2 hr => ?_)
      obtain ⟨rfl, rfl⟩ := hr
      repeat' (first
        | ((with_reducible apply Onw.mk); conv => whnf)
        | (with_reducible first | apply Br.tt | apply Br.ff | apply Br.no)
        | ((with_reducible apply Br.t); · assumption)
        | ((with_reducible apply Br.f); · assumption)
        | ((with_reducible apply Br.dt); · exact ab_known)
        | ((with_reducible apply Br.df); · exact ab_known)
        | (with_reducible first | refine Br.dec (fun hc => ?_) (fun hc => ?_) | refine Br.mk (fun hc => ?_) (fun hc => ?_))
        | ((with_reducible apply DrawG.len [false, false, false, false, false, false, false, false, false, false, false, true, true, false]); · decide +kernel)
        | ((with_reducible apply DrawG.len [false, false, false, false, false, false, false, false, false, false, true]); · decide +kernel)
        | (refine PreP.mk (hpk _) ?_)
        | (refine OptP.none hlk ?_)
        | (refine DetCall.go (c20 _ s t [103] _ he) ?_)
        | ((with_reducible first | apply NeedRows.mk | apply NeedMap.mk | apply NeedIter.mk); · exact ab_look)
        | ((with_reducible apply NeedLen.mk); · first | assumption | rfl)
        | ((with_reducible apply NeedRow.mk); · exact ab_lookR)
        | ((with_reducible apply DrawG.mk (List.replicate 60 false)); · decide +kernel)
        | (with_reducible first | refine NewP.mk (fun id hid => ?_) | refine NilP.mk (fun e he => ?_))
        | (with_reducible first | exact trivial | exact And.intro rfl rfl)
        | ((with_reducible apply PreP.mk); · exact ab_asked)
        | refine Exists.intro _ (PreP.mk (bytesOf_lst _) ?_)
        | refine PreP.mk (lenD_lst _) ?_
        | (with_reducible first | refine PreP.mk ?_ ?_ | refine BothP.mk ?_ ?_)
        | ((with_reducible apply AncOr.anc); · decide +kernel)
        | with_reducible refine AncOr.go ?_)
      rename_i id0 hid0
      rw [List.length_append] at hid
      simp only [List.length_cons, List.length_nil] at hid
      rw [hup]
      refine CallOK.go (c11 (low := if low < lo then lo else low) (l := l ++ [(s, t)]) (bs := updB (l.map entR) (.int .i64 s) bs ck) (ck := updC (l.map entR) (.int .i64 s) ck) (mid := mid) ?_ ?_ ?_ hk2) (fun r2 H2 hr => ?_)
      · exact ⟨nth_setN_same (x := .rows [[.mp mid, i64 low]]) ab_look, nth_setN_ne hne ab_look, hok, hne, hkeys⟩
      · split <;> omega
      · split <;> omega
      obtain ⟨⟨m, rfl, hm2⟩, rfl⟩ := hr
      repeat' (first
        | ((with_reducible apply Onw.mk); conv => whnf)
        | (with_reducible first | apply Br.tt | apply Br.ff | apply Br.no)
        | ((with_reducible apply Br.t); · assumption)
        | ((with_reducible apply Br.f); · assumption)
        | ((with_reducible apply Br.dt); · exact ab_known)
        | ((with_reducible apply Br.df); · exact ab_known)
        | (with_reducible first | refine Br.dec (fun hc => ?_) (fun hc => ?_) | refine Br.mk (fun hc => ?_) (fun hc => ?_))
        | ((with_reducible first | apply NeedRows.mk | apply NeedMap.mk | apply NeedIter.mk); · exact ab_look)
        | ((with_reducible apply NeedLen.mk); · first | assumption | rfl)
        | ((with_reducible apply NeedRow.mk); · exact ab_lookR)
        | ((with_reducible apply DrawG.mk (List.replicate 60 false)); · decide +kernel)
        | (with_reducible first | refine NewP.mk (fun id hid => ?_) | refine NilP.mk (fun e he => ?_))
        | (with_reducible first | exact trivial | exact And.intro rfl rfl)
        | ((with_reducible apply PreP.mk); · exact ab_asked)
        | refine Exists.intro _ (PreP.mk (bytesOf_lst _) ?_)
        | refine PreP.mk (lenD_lst _) ?_
        | (with_reducible first | refine PreP.mk ?_ ?_ | refine BothP.mk ?_ ?_)
        | ((with_reducible apply AncOr.anc); · decide +kernel)
        | with_reducible refine AncOr.go ?_)
      refine ⟨m, _, _, rfl, hm2, ⟨nth_setN_same (x := .rows [[.mp mid, i64 low]]) ab_look, nth_setN_ne hne ab_look, hok, hne, hkeys⟩, ⟨fun j o hj ho => ?_, fun _ hj => .inl hj, by simp only [setN_length, List.length_append, List.length_cons, List.length_nil]; omega⟩⟩
      have hlj := nth_lt ho
      simp only [List.mem_cons, List.not_mem_nil, or_false, not_or] at hj
      exact nth_setN_ne (by omega) (nth_setN_ne (by omega) (nth_setN_ne (by omega) (nth_app (nth_app ho))))
end Go.Proofs.Ytjlhkbikconboaa
