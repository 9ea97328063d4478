/- What functions of the receiver, of labels, rows, batches, and of the laws over them, do. Conditions: those that each theorem names. -/
import Derived.Test.YtjlhkbikconboaaR4
set_option linter.unusedVariables false
set_option linter.unusedSimpArgs false
namespace Go.Proofs.Ytjlhkbikconboaa
open Go.Ab
set_option maxRecDepth 100000
set_option maxHeartbeats 1000000
attribute [local irreducible] Run CallOK DetCall Br PreP BothP AncOr Onw NeedRows NeedMap NeedRow NeedLen NilP NeedIter RoundP EntryP EqP OptP NewP NewSlice NewMade AppTo DrawG anc drawB
theorem rows_preK (k n : Nat) (rs xs : List (List P)) (hx : ∀ r ∈ xs, r.length = k ∧ ∀ p ∈ r, isOne (.p p) = true) (by_ : Nat) (hb : (n + xs.length) * by_ ≤ maxRoom) (hm : n + xs.length ≤ maxS) (hn : n ≤ rs.length) :
    (n + (xs.map (·.map D.p)).length) * by_ ≤ maxRoom ∧ n + (xs.map (·.map D.p)).length ≤ maxS ∧ (∀ r ∈ xs.map (·.map D.p), r.length = k) ∧ (∀ r ∈ xs.map (·.map D.p), ∀ d ∈ r, isOne d = true) ∧ 0 + n ≤ (rs.map (·.map D.p)).length := by
  rw [List.length_map, List.length_map]
  refine ⟨hb, hm, fun r hr => ?_, fun r hr d hd => ?_, by omega⟩
  · obtain ⟨x, hx0, rfl⟩ := List.mem_map.1 hr
    rw [List.length_map]; exact (hx x hx0).1
  · obtain ⟨x, hx0, rfl⟩ := List.mem_map.1 hr
    obtain ⟨p, hp, rfl⟩ := List.mem_map.1 hd
    exact (hx x hx0).2 p hp
theorem rowAt_map {α : Type} {l : List α} {g : α → List P} {i : Nat} {x : α} (h : l[i]? = some x) : Ab.rowAt (l.map g) (i : Int).toNat = g x := by
  simp [Ab.rowAt, h]
def batR (s t : Int) : List P := [.int .i64 s, .int .i64 t, .str [103], .lst []]
theorem c14 (H : Heap) (r mid : Nat) (low : Int) (l : List (Int × Int)) (bs : List Nat) (ck : Nat) (h : RcAt H r mid low l bs ck) (hk : ∀ k ∈ l.map (·.1), 0 ≤ k ∧ k ≤ 1000) (hn : l.length ≤ 1000000) :
    CallOK Try.prog 14 [.ptr r 0 0] H (fun res H' => H' = H ∧ ∃ ps, res = .p (.lst ps) ∧ ps.length = l.length) := by
  refine CallOK.frozen (Q := fun ps => ps.length = l.length) (CallOK.of_spec ?_)
  have hr1 := h.row
  have hr2 := h.map
  have hlt1 := nth_lt hr1
  have hlt2 := nth_lt hr2
  have hpk : ∀ n : Int, keysOk (.int .i64) (l.map entR) ∧ keyOk (.int .i64) (.int .i64 n) = true := fun n => ⟨keysOk_ent l, rfl⟩
  refine Ab.Spec.walk hm Try.func14 (by kernel_rfl) 100 ?_
  repeat' (first
    | ((with_reducible apply Onw.mk); conv => whnf)
    | (with_reducible first | apply Br.tt | apply Br.ff | apply Br.no)
    | ((with_reducible apply Br.t); · assumption)
    | ((with_reducible apply Br.f); · assumption)
    | ((with_reducible apply Br.dt); · exact ab_known)
    | ((with_reducible apply Br.df); · exact ab_known)
    | (with_reducible first | refine Br.dec (fun hc => ?_) (fun hc => ?_) | refine Br.mk (fun hc => ?_) (fun hc => ?_))
    | ((with_reducible first | apply NeedRows.mk | apply NeedMap.mk | apply NeedIter.mk); · exact ab_look)
    | ((with_reducible apply NeedLen.mk); · first | assumption | rfl)
    | ((with_reducible apply NeedRow.mk); · exact ab_lookR)
    | ((with_reducible apply DrawG.mk (List.replicate 60 false)); · decide +kernel)
    | (with_reducible first | refine NewP.mk (fun id hid => ?_) | refine NilP.mk (fun e he => ?_))
    | (with_reducible first | exact trivial | exact And.intro rfl rfl)
    | ((with_reducible apply PreP.mk); · exact ab_asked)
    | refine Exists.intro _ (PreP.mk (bytesOf_lst _) ?_)
    | refine PreP.mk (lenD_lst _) ?_
    | (with_reducible first | refine PreP.mk ?_ ?_ | refine BothP.mk ?_ ?_)
    | ((with_reducible apply AncOr.anc); · decide +kernel)
    | with_reducible refine AncOr.go ?_)
  refine CallOK.go (c22 _ mid) (fun r2 H2 hr => ?_)
  obtain ⟨rfl, he2⟩ := hr
  rw [he2]; clear he2 H2
  repeat' (first
    | ((with_reducible apply Onw.mk); conv => whnf)
    | (with_reducible first | apply Br.tt | apply Br.ff | apply Br.no)
    | ((with_reducible apply Br.t); · assumption)
    | ((with_reducible apply Br.f); · assumption)
    | ((with_reducible apply Br.dt); · exact ab_known)
    | ((with_reducible apply Br.df); · exact ab_known)
    | (with_reducible first | refine Br.dec (fun hc => ?_) (fun hc => ?_) | refine Br.mk (fun hc => ?_) (fun hc => ?_))
    | ((with_reducible first | apply NeedRows.mk | apply NeedMap.mk | apply NeedIter.mk); · exact ab_look)
    | ((with_reducible apply NeedLen.mk); · first | assumption | rfl)
    | ((with_reducible apply NeedRow.mk); · exact ab_lookR)
    | ((with_reducible apply DrawG.mk (List.replicate 60 false)); · decide +kernel)
    | (with_reducible first | refine NewP.mk (fun id hid => ?_) | refine NilP.mk (fun e he => ?_))
    | (with_reducible first | exact trivial | exact And.intro rfl rfl)
    | ((with_reducible apply PreP.mk); · exact ab_asked)
    | refine Exists.intro _ (PreP.mk (bytesOf_lst _) ?_)
    | refine PreP.mk (lenD_lst _) ?_
    | (with_reducible first | refine PreP.mk ?_ ?_ | refine BothP.mk ?_ ?_)
    | ((with_reducible apply AncOr.anc); · decide +kernel)
    | with_reducible refine AncOr.go ?_)
  refine CallOK.go (c21 h hk hn) (fun r2 H2 hr => ?_)
  obtain ⟨rfl, he2⟩ := hr
  rw [he2]; clear he2 H2
  repeat' (first
    | ((with_reducible apply Onw.mk); conv => whnf)
    | (with_reducible first | apply Br.tt | apply Br.ff | apply Br.no)
    | ((with_reducible apply Br.t); · assumption)
    | ((with_reducible apply Br.f); · assumption)
    | ((with_reducible apply Br.dt); · exact ab_known)
    | ((with_reducible apply Br.df); · exact ab_known)
    | (with_reducible first | refine Br.dec (fun hc => ?_) (fun hc => ?_) | refine Br.mk (fun hc => ?_) (fun hc => ?_))
    | ((with_reducible first | apply NeedRows.mk | apply NeedMap.mk | apply NeedIter.mk); · exact ab_look)
    | ((with_reducible apply NeedLen.mk); · first | assumption | rfl)
    | ((with_reducible apply NeedRow.mk); · exact ab_lookR)
    | ((with_reducible apply DrawG.mk (List.replicate 60 false)); · decide +kernel)
    | (with_reducible first | refine NewP.mk (fun id hid => ?_) | refine NilP.mk (fun e he => ?_))
    | (with_reducible first | exact trivial | exact And.intro rfl rfl)
    | ((with_reducible apply PreP.mk); · exact ab_asked)
    | refine Exists.intro _ (PreP.mk (bytesOf_lst _) ?_)
    | refine PreP.mk (lenD_lst _) ?_
    | (with_reducible first | refine PreP.mk ?_ ?_ | refine BothP.mk ?_ ?_)
    | ((with_reducible apply AncOr.anc); · decide +kernel)
    | with_reducible refine AncOr.go ?_)
  generalize hks : (l.map (·.1)).mergeSort leI = ks
  have hkl : ks.length = l.length := by rw [← hks, List.length_mergeSort, List.length_map]
  have hkm : ∀ k, k ∈ ks → k ∈ l.map (·.1) := fun k hh => by rw [← hks] at hh; simpa using hh
  refine Run.virt 3 4 rfl ?_
  refine Run.keep [(0, .ptr r 0 0), (3, .own H.length 4 0 (0 : Nat) none), (11, .p (.lst (ks.map intRowZ))), (12, i64 (ks.map intRowZ).length), (13, i64 (0 : Nat))] ⟨rfl, rfl, rfl, rfl, rfl, trivial⟩ ?_
  refine Run.rounds (fun (i : Nat) T H2 => ∃ (out : List (List P)) (id : Nat), T = [(0, .ptr r 0 0), (3, .own id 4 0 out.length none), (11, .p (.lst (ks.map intRowZ))), (12, i64 (ks.map intRowZ).length), (13, i64 (i : Nat))] ∧ OwnL H H2 id out ∧ out.length = i ∧ i ≤ ks.length ∧ ∀ r ∈ out, r.length = 4) (fun i => ks.length - i) ?_ (x := 0) ⟨[], _, rfl, OwnL.start H, rfl, Nat.zero_le _, by simp⟩
  rintro i T H2 ⟨out, id, rfl, hO, hi, hil, ho4⟩ ih
  have hrow := hO.2.2
  have hpre := hO.2.1
  obtain ⟨x, rfl⟩ := hpre
  have hlk : ((ks.map intRowZ).length : Int) = ks.length := by simp
  have hw1 : IntKind.i64.wrap ((i : Int) + 1) = (i + 1 : Nat) := by rw [wrap64 (by omega) (by omega)]; omega
  rcases Nat.lt_or_ge i ks.length with hi2 | hi2
  · obtain ⟨n, hnk⟩ : ∃ n, ks[i]? = some n := ⟨ks[i], by simp [hi2]⟩
    have hri : Ab.rowAt (ks.map intRowZ) (i : Int).toNat = intRowZ n := rowAt_map hnk
    have hrl : (Ab.rowAt (ks.map intRowZ) (i : Int).toNat).length = 1 := by rw [hri]; rfl
    have hrp : (0 : Int) ≤ (i : Int) ∧ (i : Int) < ((ks.map intRowZ).length : Int) ∧ (Ab.rowAt (ks.map intRowZ) (i : Int).toNat).length = 1 := ⟨by omega, by omega, hrl⟩
    obtain ⟨t, ht, hlk2⟩ := lookE_in (hkm n (List.mem_of_getElem? hnk))
    refine Run.walk hm Try.func14 100 ?_
    repeat' (first
      | ((with_reducible apply Onw.mk); conv => whnf)
      | (with_reducible first | apply Br.tt | apply Br.ff | apply Br.no)
      | ((with_reducible apply Br.t); · assumption)
      | ((with_reducible apply Br.f); · assumption)
      | ((with_reducible apply Br.dt); · exact ab_known)
      | ((with_reducible apply Br.df); · exact ab_known)
      | (with_reducible first | refine Br.dec (fun hc => ?_) (fun hc => ?_) | refine Br.mk (fun hc => ?_) (fun hc => ?_))
      | (refine PreP.mk hrp ?_)
      | (refine EqP.mk hri ?_)
      | (refine PreP.mk (hpk _) ?_)
      | (refine OptP.some hlk2 ?_)
      | ((with_reducible first | apply NeedRows.mk | apply NeedMap.mk | apply NeedIter.mk); · exact ab_look)
      | ((with_reducible apply NeedLen.mk); · first | assumption | rfl)
      | ((with_reducible apply NeedRow.mk); · exact ab_lookR)
      | ((with_reducible apply DrawG.mk (List.replicate 60 false)); · decide +kernel)
      | (with_reducible first | refine NewP.mk (fun id hid => ?_) | refine NilP.mk (fun e he => ?_))
      | (with_reducible first | exact trivial | exact And.intro rfl rfl)
      | ((with_reducible apply PreP.mk); · exact ab_asked)
      | refine Exists.intro _ (PreP.mk (bytesOf_lst _) ?_)
      | refine PreP.mk (lenD_lst _) ?_
      | (with_reducible first | refine PreP.mk ?_ ?_ | refine BothP.mk ?_ ?_)
      | ((with_reducible apply AncOr.anc); · decide +kernel)
      | with_reducible refine AncOr.go ?_)
    refine CallOK.go (c20 _ n t [103] _ (.inr rfl)) (fun r2 H2 hr => ?_)
    obtain ⟨rfl, he2⟩ := hr
    rw [he2]; clear he2 H2
    repeat' (first
      | ((with_reducible apply Onw.mk); conv => whnf)
      | (with_reducible first | apply Br.tt | apply Br.ff | apply Br.no)
      | ((with_reducible apply Br.t); · assumption)
      | ((with_reducible apply Br.f); · assumption)
      | ((with_reducible apply Br.dt); · exact ab_known)
      | ((with_reducible apply Br.df); · exact ab_known)
      | (with_reducible first | refine Br.dec (fun hc => ?_) (fun hc => ?_) | refine Br.mk (fun hc => ?_) (fun hc => ?_))
      | ((with_reducible first | apply NeedRows.mk | apply NeedMap.mk | apply NeedIter.mk); · exact ab_look)
      | ((with_reducible apply NeedLen.mk); · first | assumption | rfl)
      | ((with_reducible apply NeedRow.mk); · exact ab_lookR)
      | ((with_reducible apply DrawG.mk (List.replicate 60 false)); · decide +kernel)
      | (with_reducible first | refine NewP.mk (fun id hid => ?_) | refine NilP.mk (fun e he => ?_))
      | (with_reducible first | exact trivial | exact And.intro rfl rfl)
      | ((with_reducible apply PreP.mk); · exact ab_asked)
      | refine Exists.intro _ (PreP.mk (bytesOf_lst _) ?_)
      | refine PreP.mk (lenD_lst _) ?_
      | (with_reducible first | refine PreP.mk ?_ ?_ | refine BothP.mk ?_ ?_)
      | ((with_reducible apply AncOr.anc); · decide +kernel)
      | with_reducible refine AncOr.go ?_)
    refine NewSlice.lst [batR n t] rfl rfl (fun q hq => by simp at hq; subst hq; rfl) ?_
    repeat' (first
      | ((with_reducible apply Onw.mk); conv => whnf)
      | (with_reducible first | apply Br.tt | apply Br.ff | apply Br.no)
      | ((with_reducible apply Br.t); · assumption)
      | ((with_reducible apply Br.f); · assumption)
      | ((with_reducible apply Br.dt); · exact ab_known)
      | ((with_reducible apply Br.df); · exact ab_known)
      | (with_reducible first | refine Br.dec (fun hc => ?_) (fun hc => ?_) | refine Br.mk (fun hc => ?_) (fun hc => ?_))
      | ((with_reducible first | apply NeedRows.mk | apply NeedMap.mk | apply NeedIter.mk); · exact ab_look)
      | ((with_reducible apply NeedLen.mk); · first | assumption | rfl)
      | ((with_reducible apply NeedRow.mk); · exact ab_lookR)
      | ((with_reducible apply DrawG.mk (List.replicate 60 false)); · decide +kernel)
      | (with_reducible first | refine NewP.mk (fun id hid => ?_) | refine NilP.mk (fun e he => ?_))
      | (with_reducible first | exact trivial | exact And.intro rfl rfl)
      | ((with_reducible apply PreP.mk); · exact ab_asked)
      | refine Exists.intro _ (PreP.mk (bytesOf_lst _) ?_)
      | refine PreP.mk (lenD_lst _) ?_
      | (with_reducible first | refine PreP.mk ?_ ?_ | refine BothP.mk ?_ ?_)
      | ((with_reducible apply AncOr.anc); · decide +kernel)
      | with_reducible refine AncOr.go ?_)
    · exact rows_preK 4 out.length out [batR n t] (fun q hq => by simp at hq; subst hq; exact ⟨rfl, fun p hp => by simp [batR] at hp; rcases hp with rfl | rfl | rfl | rfl <;> rfl⟩) 56 (by unfold maxRoom; simp; omega) (by unfold maxS; simp; omega) (by simp)
    refine AppTo.new (fun id2 hid2 => ?_)
    repeat' (first
      | ((with_reducible apply Onw.mk); conv => whnf)
      | (with_reducible first | apply Br.tt | apply Br.ff | apply Br.no)
      | ((with_reducible apply Br.t); · assumption)
      | ((with_reducible apply Br.f); · assumption)
      | ((with_reducible apply Br.dt); · exact ab_known)
      | ((with_reducible apply Br.df); · exact ab_known)
      | (with_reducible first | refine Br.dec (fun hc => ?_) (fun hc => ?_) | refine Br.mk (fun hc => ?_) (fun hc => ?_))
      | ((with_reducible first | apply NeedRows.mk | apply NeedMap.mk | apply NeedIter.mk); · exact ab_look)
      | ((with_reducible apply NeedLen.mk); · first | assumption | rfl)
      | ((with_reducible apply NeedRow.mk); · exact ab_lookR)
      | ((with_reducible apply DrawG.mk (List.replicate 60 false)); · decide +kernel)
      | (with_reducible first | refine NewP.mk (fun id hid => ?_) | refine NilP.mk (fun e he => ?_))
      | (with_reducible first | exact trivial | exact And.intro rfl rfl)
      | ((with_reducible apply PreP.mk); · exact ab_asked)
      | refine Exists.intro _ (PreP.mk (bytesOf_lst _) ?_)
      | refine PreP.mk (lenD_lst _) ?_
      | (with_reducible first | refine PreP.mk ?_ ?_ | refine BothP.mk ?_ ?_)
      | ((with_reducible apply AncOr.anc); · decide +kernel)
      | with_reducible refine AncOr.go ?_)
    refine Run.keep _ ?_ (ih (i + 1) _ _ (by omega) ⟨out ++ [batR n t], id2, rfl, hO.rows hid2 ?_, by simp [hi], by omega, fun r hr => ?_⟩)
    · exact ⟨rfl, congrArg (fun n => some (D.own id2 4 0 n none)) (by simp), rfl, rfl, congrArg (fun n => some (i64 n)) hw1, trivial⟩
    · rw [List.drop_zero, List.take_of_length_le (by rw [List.length_map]; exact Nat.le_refl _), List.map_append]
    · rcases List.mem_append.1 hr with q | q
      · exact ho4 r q
      · simp at q; subst q; rfl
  · have hi3 : ¬ (i : Int) < ((ks.map intRowZ).length : Int) := by rw [hlk]; omega
    refine Run.walk hm Try.func14 100 ?_
    repeat' (first
      | ((with_reducible apply Onw.mk); conv => whnf)
      | (with_reducible first | apply Br.tt | apply Br.ff | apply Br.no)
      | ((with_reducible apply Br.t); · assumption)
      | ((with_reducible apply Br.f); · assumption)
      | ((with_reducible apply Br.dt); · exact ab_known)
      | ((with_reducible apply Br.df); · exact ab_known)
      | (with_reducible first | refine Br.dec (fun hc => ?_) (fun hc => ?_) | refine Br.mk (fun hc => ?_) (fun hc => ?_))
      | ((with_reducible first | apply NeedRows.mk | apply NeedMap.mk | apply NeedIter.mk); · exact ab_look)
      | ((with_reducible apply NeedLen.mk); · first | assumption | rfl)
      | ((with_reducible apply NeedRow.mk); · exact ab_lookR)
      | ((with_reducible apply DrawG.mk (List.replicate 60 false)); · decide +kernel)
      | (with_reducible first | refine NewP.mk (fun id hid => ?_) | refine NilP.mk (fun e he => ?_))
      | (with_reducible first | exact trivial | exact And.intro rfl rfl)
      | ((with_reducible apply PreP.mk); · exact ab_asked)
      | refine Exists.intro _ (PreP.mk (bytesOf_lst _) ?_)
      | refine PreP.mk (lenD_lst _) ?_
      | (with_reducible first | refine PreP.mk ?_ ?_ | refine BothP.mk ?_ ?_)
      | ((with_reducible apply AncOr.anc); · decide +kernel)
      | with_reducible refine AncOr.go ?_)
    have hil3 : out.length = l.length := by omega
    refine ⟨⟨x, rfl⟩, out, hil3, .inl ⟨id, 4, 0, none, _, hO.1, rfl, hrow, ?_, ho4⟩⟩
    rw [List.drop_zero, List.take_of_length_le (by rw [List.length_map]; exact Nat.le_refl _)]
end Go.Proofs.Ytjlhkbikconboaa
