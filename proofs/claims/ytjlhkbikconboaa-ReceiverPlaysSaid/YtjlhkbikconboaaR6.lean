/- What functions of the receiver, of labels, rows, batches, and of the laws over them, do. Conditions: those that each theorem names. -/
import Derived.Test.YtjlhkbikconboaaR5
set_option linter.unusedVariables false
set_option linter.unusedSimpArgs false
namespace Go.Proofs.Ytjlhkbikconboaa
open Go.Ab
set_option maxRecDepth 100000
set_option maxHeartbeats 1000000
attribute [local irreducible] Run CallOK DetCall Br PreP BothP AncOr Onw NeedRows NeedMap NeedRow NeedLen NilP NeedIter RoundP EntryP EqP OptP NewP NewSlice NewMade AppTo DrawG anc drawB
theorem RcAt.keep {H H' : Heap} {r mid : Nat} {low : Int} {l : List (Int × Int)} {bs : List Nat} {ck : Nat} (h : RcAt H r mid low l bs ck) (e : ∀ j o, j < H.length → nth H j = some o → nth H' j = some o) : RcAt H' r mid low l bs ck :=
  ⟨e _ _ (nth_lt h.row) h.row, e _ _ (nth_lt h.map) h.map, h.ok, h.ne, h.keys⟩
theorem nth_new_set {H : Heap} {o o' : Ab.Obj} {id : Nat} (hid : id = H.length) (j : Nat) (x : Ab.Obj) (hj : j < H.length) (hx : nth H j = some x) : nth (setN (H ++ [o]) id o') j = some x :=
  nth_setN_ne (by omega) (nth_app hx)
theorem mark_of {keys : List Int} {low : Int} (m : Int) (h1 : low - 1 ≤ m) (h2 : ∀ j, low ≤ j → j ≤ m → j ∈ keys) (h3 : m + 1 ∉ keys) : IsMark keys low m := ⟨h1, h2, h3⟩
/-- A letter with a number that isn't there yet. -/
theorem c9new {H : Heap} {r mid : Nat} {low : Int} {l : List (Int × Int)} {bs : List Nat} {ck : Nat} (h : RcAt H r mid low l bs ck) (s t : Int) (e : P) (lo low' : Int) (he : NoRows e) (h1 : 0 < s) (h2 : 0 ≤ t) (h3 : t ≤ 1000000) (h4 : 1 ≤ lo) (h5 : lo ≤ s) (h6 : s ≤ 1000) (h7 : 0 ≤ low) (h8 : low ≤ 1000) (hk : ∀ k ∈ l.map (·.1), k ≤ 1000)
    (hin : s ∉ l.map (·.1)) (hl : (if low < lo then lo else low) = low') :
    CallOK Try.prog 9 [.ptr r 0 0, .p (letP s t e lo)] H (fun res H' => ∃ m bs' ck', res = .tup [i64 m, i64 0] ∧ IsMark ((l ++ [(s, t)]).map (·.1)) low' m ∧ RcAt H' r mid low' (l ++ [(s, t)]) bs' ck' ∧ Goes H [r, mid] H' [r, mid]) := by
  have := s9 H r mid low l bs ck h s t e lo he h1 h2 h3 h4 h5 h6 h7 h8 hk
  rw [if_neg hin, hl] at this
  exact CallOK.of_spec this
/-- A letter with a number that is there. -/
theorem c9old {H : Heap} {r mid : Nat} {low : Int} {l : List (Int × Int)} {bs : List Nat} {ck : Nat} (h : RcAt H r mid low l bs ck) (s t : Int) (e : P) (lo low' : Int) (he : NoRows e) (h1 : 0 < s) (h2 : 0 ≤ t) (h3 : t ≤ 1000000) (h4 : 1 ≤ lo) (h5 : lo ≤ s) (h6 : s ≤ 1000) (h7 : 0 ≤ low) (h8 : low ≤ 1000) (hk : ∀ k ∈ l.map (·.1), k ≤ 1000)
    (hin : s ∈ l.map (·.1)) (hl : (if low < lo then lo else low) = low') :
    CallOK Try.prog 9 [.ptr r 0 0, .p (letP s t e lo)] H (fun res H' => ∃ m bs' ck', res = .tup [i64 m, i64 0] ∧ IsMark (l.map (·.1)) low' m ∧ RcAt H' r mid low' l bs' ck' ∧ Goes H [r, mid] H' [r, mid]) := by
  have := s9 H r mid low l bs ck h s t e lo he h1 h2 h3 h4 h5 h6 h7 h8 hk
  rw [if_pos hin, hl] at this
  exact CallOK.of_spec this
theorem s7 (H : Heap) : Ab.Spec Try.prog 7 [] H (fun res H' => res = boolD true ∧ ∃ x, H' = H ++ x) := by
  refine Ab.Spec.walk hm Try.func7 (by kernel_rfl) 100 ?_
  repeat' (first
    | ((with_reducible apply Onw.mk); conv => whnf)
    | (with_reducible first | apply Br.tt | apply Br.ff | apply Br.no)
    | ((with_reducible apply Br.t); · assumption)
    | ((with_reducible apply Br.f); · assumption)
    | ((with_reducible apply Br.dt); · exact ab_known)
    | ((with_reducible apply Br.df); · exact ab_known)
    | (with_reducible first | refine Br.dec (fun hc => ?_) (fun hc => ?_) | refine Br.mk (fun hc => ?_) (fun hc => ?_))
    | ((with_reducible first | apply NeedRows.mk | apply NeedMap.mk | apply NeedIter.mk); · exact ab_look)
    | ((with_reducible apply NeedLen.mk); · first | assumption | rfl)
    | ((with_reducible apply NeedRow.mk); · exact ab_lookR)
    | ((with_reducible apply DrawG.mk (List.replicate 60 false)); · decide +kernel)
    | (with_reducible first | refine NewP.mk (fun id hid => ?_) | refine NilP.mk (fun e he => ?_))
    | (with_reducible first | exact trivial | exact And.intro rfl rfl)
    | ((with_reducible apply PreP.mk); · exact ab_asked)
    | refine Exists.intro _ (PreP.mk (bytesOf_lst _) ?_)
    | refine PreP.mk (lenD_lst _) ?_
    | (with_reducible first | refine PreP.mk ?_ ?_ | refine BothP.mk ?_ ?_)
    | ((with_reducible apply AncOr.anc); · decide +kernel)
    | with_reducible refine AncOr.go ?_)
  refine CallOK.go (CallOK.of_spec (s8 _)) (fun r1 H1 hr => ?_)
  obtain ⟨r, mid, rfl, h1, hge1, hge2, x1, hx1⟩ := hr
  repeat' (first
    | ((with_reducible apply Onw.mk); conv => whnf)
    | (with_reducible first | apply Br.tt | apply Br.ff | apply Br.no)
    | ((with_reducible apply Br.t); · assumption)
    | ((with_reducible apply Br.f); · assumption)
    | ((with_reducible apply Br.dt); · exact ab_known)
    | ((with_reducible apply Br.df); · exact ab_known)
    | (with_reducible first | refine Br.dec (fun hc => ?_) (fun hc => ?_) | refine Br.mk (fun hc => ?_) (fun hc => ?_))
    | ((with_reducible first | apply NeedRows.mk | apply NeedMap.mk | apply NeedIter.mk); · exact ab_look)
    | ((with_reducible apply NeedLen.mk); · first | assumption | rfl)
    | ((with_reducible apply NeedRow.mk); · exact ab_lookR)
    | ((with_reducible apply DrawG.mk (List.replicate 60 false)); · decide +kernel)
    | (with_reducible first | refine NewP.mk (fun id hid => ?_) | refine NilP.mk (fun e he => ?_))
    | (with_reducible first | exact trivial | exact And.intro rfl rfl)
    | ((with_reducible apply PreP.mk); · exact ab_asked)
    | refine Exists.intro _ (PreP.mk (bytesOf_lst _) ?_)
    | refine PreP.mk (lenD_lst _) ?_
    | (with_reducible first | refine PreP.mk ?_ ?_ | refine BothP.mk ?_ ?_)
    | ((with_reducible apply AncOr.anc); · decide +kernel)
    | with_reducible refine AncOr.go ?_)
  refine CallOK.go (c11z h1) (fun r2 H2 hr => ?_)
  obtain ⟨rfl, he2⟩ := hr
  rw [he2]; clear he2 H2
  repeat' (first
    | ((with_reducible apply Onw.mk); conv => whnf)
    | (with_reducible first | apply Br.tt | apply Br.ff | apply Br.no)
    | ((with_reducible apply Br.t); · assumption)
    | ((with_reducible apply Br.f); · assumption)
    | ((with_reducible apply Br.dt); · exact ab_known)
    | ((with_reducible apply Br.df); · exact ab_known)
    | (with_reducible first | refine Br.dec (fun hc => ?_) (fun hc => ?_) | refine Br.mk (fun hc => ?_) (fun hc => ?_))
    | ((with_reducible first | apply NeedRows.mk | apply NeedMap.mk | apply NeedIter.mk); · exact ab_look)
    | ((with_reducible apply NeedLen.mk); · first | assumption | rfl)
    | ((with_reducible apply NeedRow.mk); · exact ab_lookR)
    | ((with_reducible apply DrawG.mk (List.replicate 60 false)); · decide +kernel)
    | (with_reducible first | refine NewP.mk (fun id hid => ?_) | refine NilP.mk (fun e he => ?_))
    | (with_reducible first | exact trivial | exact And.intro rfl rfl)
    | ((with_reducible apply PreP.mk); · exact ab_asked)
    | refine Exists.intro _ (PreP.mk (bytesOf_lst _) ?_)
    | refine PreP.mk (lenD_lst _) ?_
    | (with_reducible first | refine PreP.mk ?_ ?_ | refine BothP.mk ?_ ?_)
    | ((with_reducible apply AncOr.anc); · decide +kernel)
    | with_reducible refine AncOr.go ?_)
  refine CallOK.go (c9new (h1.keep (nth_new_set hid)) 2 0 _ 2 2 (.inl rfl) (by omega) (by omega) (by omega) (by omega) (by omega) (by omega) (by omega) (by omega) (by simp) (by simp) (by decide)) (fun r2 H2 hr => ?_)
  obtain ⟨m, bs2, ck2, rfl, hm2, h2, hg2⟩ := hr
  obtain rfl : m = 2 := hm2.eq (mark_of 2 (by simp) (fun j h1 h2 => by simp at h1 ⊢; omega) (by simp))
  have hidb : id ∉ [r, mid] := by have := nth_lt h1.row; have := nth_lt h1.map; simp; omega
  have hb2 := hg2.out id _ hidb (nth_setN_same (nth_new hid))
  repeat' (first
    | ((with_reducible apply Onw.mk); conv => whnf)
    | (with_reducible first | apply Br.tt | apply Br.ff | apply Br.no)
    | ((with_reducible apply Br.t); · assumption)
    | ((with_reducible apply Br.f); · assumption)
    | ((with_reducible apply Br.dt); · exact ab_known)
    | ((with_reducible apply Br.df); · exact ab_known)
    | (with_reducible first | refine Br.dec (fun hc => ?_) (fun hc => ?_) | refine Br.mk (fun hc => ?_) (fun hc => ?_))
    | ((with_reducible first | apply NeedRows.mk | apply NeedMap.mk | apply NeedIter.mk); · exact ab_look)
    | ((with_reducible apply NeedLen.mk); · first | assumption | rfl)
    | ((with_reducible apply NeedRow.mk); · exact ab_lookR)
    | ((with_reducible apply DrawG.mk (List.replicate 60 false)); · decide +kernel)
    | (with_reducible first | refine NewP.mk (fun id hid => ?_) | refine NilP.mk (fun e he => ?_))
    | (with_reducible first | exact trivial | exact And.intro rfl rfl)
    | ((with_reducible apply PreP.mk); · exact ab_asked)
    | refine Exists.intro _ (PreP.mk (bytesOf_lst _) ?_)
    | refine PreP.mk (lenD_lst _) ?_
    | (with_reducible first | refine PreP.mk ?_ ?_ | refine BothP.mk ?_ ?_)
    | ((with_reducible apply AncOr.anc); · decide +kernel)
    | with_reducible refine AncOr.go ?_)
  refine CallOK.go (c9new h2 4 0 _ 2 2 (.inl rfl) (by omega) (by omega) (by omega) (by omega) (by omega) (by omega) (by omega) (by omega) (by simp) (by simp) (by decide)) (fun r2 H3 hr => ?_)
  obtain ⟨m, bs3, ck3, rfl, hm3, h3, hg3⟩ := hr
  obtain rfl : m = 2 := hm3.eq (mark_of 2 (by simp) (fun j h1 h2 => by simp at h1 ⊢; omega) (by simp))
  have hb3 := hg3.out id _ hidb hb2
  repeat' (first
    | ((with_reducible apply Onw.mk); conv => whnf)
    | (with_reducible first | apply Br.tt | apply Br.ff | apply Br.no)
    | ((with_reducible apply Br.t); · assumption)
    | ((with_reducible apply Br.f); · assumption)
    | ((with_reducible apply Br.dt); · exact ab_known)
    | ((with_reducible apply Br.df); · exact ab_known)
    | (with_reducible first | refine Br.dec (fun hc => ?_) (fun hc => ?_) | refine Br.mk (fun hc => ?_) (fun hc => ?_))
    | ((with_reducible first | apply NeedRows.mk | apply NeedMap.mk | apply NeedIter.mk); · exact ab_look)
    | ((with_reducible apply NeedLen.mk); · first | assumption | rfl)
    | ((with_reducible apply NeedRow.mk); · exact ab_lookR)
    | ((with_reducible apply DrawG.mk (List.replicate 60 false)); · decide +kernel)
    | (with_reducible first | refine NewP.mk (fun id hid => ?_) | refine NilP.mk (fun e he => ?_))
    | (with_reducible first | exact trivial | exact And.intro rfl rfl)
    | ((with_reducible apply PreP.mk); · exact ab_asked)
    | refine Exists.intro _ (PreP.mk (bytesOf_lst _) ?_)
    | refine PreP.mk (lenD_lst _) ?_
    | (with_reducible first | refine PreP.mk ?_ ?_ | refine BothP.mk ?_ ?_)
    | ((with_reducible apply AncOr.anc); · decide +kernel)
    | with_reducible refine AncOr.go ?_)
  refine CallOK.go (CallOK.of_spec (s9bad _ r 2 0 _ 3 (.inl rfl) (by omega) (by omega) (by omega) (by omega) (by omega))) (fun r2 H4 hr => ?_)
  obtain ⟨rfl, x4, rfl⟩ := hr
  have h4 := h3.more x4
  repeat' (first
    | ((with_reducible apply Onw.mk); conv => whnf)
    | (with_reducible first | apply Br.tt | apply Br.ff | apply Br.no)
    | ((with_reducible apply Br.t); · assumption)
    | ((with_reducible apply Br.f); · assumption)
    | ((with_reducible apply Br.dt); · exact ab_known)
    | ((with_reducible apply Br.df); · exact ab_known)
    | (with_reducible first | refine Br.dec (fun hc => ?_) (fun hc => ?_) | refine Br.mk (fun hc => ?_) (fun hc => ?_))
    | ((with_reducible first | apply NeedRows.mk | apply NeedMap.mk | apply NeedIter.mk); · exact ab_look)
    | ((with_reducible apply NeedLen.mk); · first | assumption | rfl)
    | ((with_reducible apply NeedRow.mk); · exact ab_lookR)
    | ((with_reducible apply DrawG.mk (List.replicate 60 false)); · decide +kernel)
    | (with_reducible first | refine NewP.mk (fun id hid => ?_) | refine NilP.mk (fun e he => ?_))
    | (with_reducible first | exact trivial | exact And.intro rfl rfl)
    | ((with_reducible apply PreP.mk); · exact ab_asked)
    | refine Exists.intro _ (PreP.mk (bytesOf_lst _) ?_)
    | refine PreP.mk (lenD_lst _) ?_
    | (with_reducible first | refine PreP.mk ?_ ?_ | refine BothP.mk ?_ ?_)
    | ((with_reducible apply AncOr.anc); · decide +kernel)
    | with_reducible refine AncOr.go ?_)
  refine CallOK.go (c15in h4 (n := 2) (by simp)) (fun r2 H5 hr => ?_)
  obtain ⟨⟨t5, ht5, rfl⟩, he5⟩ := hr
  rw [he5]; clear he5 H5
  repeat' (first
    | ((with_reducible apply Onw.mk); conv => whnf)
    | (with_reducible first | apply Br.tt | apply Br.ff | apply Br.no)
    | ((with_reducible apply Br.t); · assumption)
    | ((with_reducible apply Br.f); · assumption)
    | ((with_reducible apply Br.dt); · exact ab_known)
    | ((with_reducible apply Br.df); · exact ab_known)
    | (with_reducible first | refine Br.dec (fun hc => ?_) (fun hc => ?_) | refine Br.mk (fun hc => ?_) (fun hc => ?_))
    | ((with_reducible first | apply NeedRows.mk | apply NeedMap.mk | apply NeedIter.mk); · exact ab_look)
    | ((with_reducible apply NeedLen.mk); · first | assumption | rfl)
    | ((with_reducible apply NeedRow.mk); · exact ab_lookR)
    | ((with_reducible apply DrawG.mk (List.replicate 60 false)); · decide +kernel)
    | (with_reducible first | refine NewP.mk (fun id hid => ?_) | refine NilP.mk (fun e he => ?_))
    | (with_reducible first | exact trivial | exact And.intro rfl rfl)
    | ((with_reducible apply PreP.mk); · exact ab_asked)
    | refine Exists.intro _ (PreP.mk (bytesOf_lst _) ?_)
    | refine PreP.mk (lenD_lst _) ?_
    | (with_reducible first | refine PreP.mk ?_ ?_ | refine BothP.mk ?_ ?_)
    | ((with_reducible apply AncOr.anc); · decide +kernel)
    | with_reducible refine AncOr.go ?_)
  rename_i id0 hid0
  refine Run.walk hm Try.func7 100 ?_
  repeat' (first
    | ((with_reducible apply Onw.mk); conv => whnf)
    | (with_reducible first | apply Br.tt | apply Br.ff | apply Br.no)
    | ((with_reducible apply Br.t); · assumption)
    | ((with_reducible apply Br.f); · assumption)
    | ((with_reducible apply Br.dt); · exact ab_known)
    | ((with_reducible apply Br.df); · exact ab_known)
    | (with_reducible first | refine Br.dec (fun hc => ?_) (fun hc => ?_) | refine Br.mk (fun hc => ?_) (fun hc => ?_))
    | ((with_reducible first | apply NeedRows.mk | apply NeedMap.mk | apply NeedIter.mk); · exact ab_look)
    | ((with_reducible apply NeedLen.mk); · first | assumption | rfl)
    | ((with_reducible apply NeedRow.mk); · exact ab_lookR)
    | ((with_reducible apply DrawG.mk (List.replicate 60 false)); · decide +kernel)
    | (with_reducible first | refine NewP.mk (fun id hid => ?_) | refine NilP.mk (fun e he => ?_))
    | (with_reducible first | exact trivial | exact And.intro rfl rfl)
    | ((with_reducible apply PreP.mk); · exact ab_asked)
    | refine Exists.intro _ (PreP.mk (bytesOf_lst _) ?_)
    | refine PreP.mk (lenD_lst _) ?_
    | (with_reducible first | refine PreP.mk ?_ ?_ | refine BothP.mk ?_ ?_)
    | ((with_reducible apply AncOr.anc); · decide +kernel)
    | with_reducible refine AncOr.go ?_)
  refine CallOK.go (c14 _ r mid _ _ _ _ (h4.keep (nth_new_set hid)) (by simp) (by simp)) (fun r2 H5 hr => ?_)
  obtain ⟨he5, ps, rfl, hps⟩ := hr
  rw [he5]; clear he5 H5
  repeat' (first
    | ((with_reducible apply Onw.mk); conv => whnf)
    | (with_reducible first | apply Br.tt | apply Br.ff | apply Br.no)
    | ((with_reducible apply Br.t); · assumption)
    | ((with_reducible apply Br.f); · assumption)
    | ((with_reducible apply Br.dt); · exact ab_known)
    | ((with_reducible apply Br.df); · exact ab_known)
    | (with_reducible first | refine Br.dec (fun hc => ?_) (fun hc => ?_) | refine Br.mk (fun hc => ?_) (fun hc => ?_))
    | ((with_reducible first | apply NeedRows.mk | apply NeedMap.mk | apply NeedIter.mk); · exact ab_look)
    | ((with_reducible apply NeedLen.mk); · first | assumption | rfl)
    | ((with_reducible apply NeedRow.mk); · exact ab_lookR)
    | ((with_reducible apply DrawG.mk (List.replicate 60 false)); · decide +kernel)
    | (with_reducible first | refine NewP.mk (fun id hid => ?_) | refine NilP.mk (fun e he => ?_))
    | (with_reducible first | exact trivial | exact And.intro rfl rfl)
    | ((with_reducible apply PreP.mk); · exact ab_asked)
    | refine Exists.intro _ (PreP.mk (bytesOf_lst _) ?_)
    | refine PreP.mk (lenD_lst _) ?_
    | (with_reducible first | refine PreP.mk ?_ ?_ | refine BothP.mk ?_ ?_)
    | ((with_reducible apply AncOr.anc); · decide +kernel)
    | with_reducible refine AncOr.go ?_)
  have hps2 : (ps.length : Int) = 2 := by rw [hps]; rfl
  refine ⟨congrArg boolD (decide_eq_true hps2), prefix_of (fun j o hj => ?_)⟩
  have hlt := nth_lt hj
  have hj1 : nth H1 j = some o := by rw [hx1]; exact nth_app hj
  have hnot : j ∉ [r, mid] := by simp; omega
  have hj3 := hg3.out j o hnot (hg2.out j o hnot (nth_new_set hid0 j o (nth_lt hj1) hj1))
  exact nth_new_set hid j o (nth_lt (nth_app hj3)) (nth_app hj3)
theorem c7 (H : Heap) : CallOK Try.prog 7 [] H (fun res H' => res = boolD true ∧ H' = H) :=
  (CallOK.trim (Q := fun r => r = boolD true) ((CallOK.of_spec (s7 H)).mono (fun _ _ hr => ⟨hr.2, by rw [hr.1]; rfl, hr.1⟩))).mono (fun _ _ hr => ⟨hr.2.2, hr.1⟩)
end Go.Proofs.Ytjlhkbikconboaa
