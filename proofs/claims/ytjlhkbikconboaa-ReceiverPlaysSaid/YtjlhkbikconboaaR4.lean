/- What functions of the receiver, of labels, rows, batches, and of the laws over them, do. Conditions: those that each theorem names. -/
import Derived.Test.YtjlhkbikconboaaR3
import Derived.Test.YtjlhkbikconboaaLaidB
import Derived.Test.YtjlhkbikconboaaKc
set_option linter.unusedVariables false
set_option linter.unusedSimpArgs false
namespace Go.Proofs.Ytjlhkbikconboaa
open Go.Ab
set_option maxRecDepth 100000
set_option maxHeartbeats 1000000
attribute [local irreducible] Run CallOK DetCall Br PreP BothP AncOr Onw NeedRows NeedMap NeedRow NeedLen NilP NeedIter RoundP EntryP EqP OptP NewP NewSlice NewMade AppTo DrawG anc drawB
theorem s15in (H : Heap) (r mid : Nat) (low : Int) (l : List (Int × Int)) (bs : List Nat) (ck : Nat) (h : RcAt H r mid low l bs ck) (n : Int) (hin : n ∈ l.map (·.1)) :
    Ab.Spec Try.prog 15 [.ptr r 0 0, i64 n] H (fun res H' => (∃ t, (n, t) ∈ l ∧ res = .tup [.p (batP n t (.lst [])), boolD true]) ∧ ∃ x, H' = H ++ x) := by
  have hr1 := h.row
  have hr2 := h.map
  have hlt1 := nth_lt hr1
  have hlt2 := nth_lt hr2
  have hpk : ∀ n : Int, keysOk (.int .i64) (l.map entR) ∧ keyOk (.int .i64) (.int .i64 n) = true := fun n => ⟨keysOk_ent l, rfl⟩
  obtain ⟨t, ht, hlk⟩ := lookE_in hin
  refine Ab.Spec.walk hm Try.func15 (by kernel_rfl) 100 ?_
  repeat' (first
    | ((with_reducible apply Onw.mk); conv => whnf)
    | (with_reducible first | apply Br.tt | apply Br.ff | apply Br.no)
    | ((with_reducible apply Br.t); · assumption)
    | ((with_reducible apply Br.f); · assumption)
    | ((with_reducible apply Br.dt); · exact ab_known)
    | ((with_reducible apply Br.df); · exact ab_known)
    | (with_reducible first | refine Br.dec (fun hc => ?_) (fun hc => ?_) | refine Br.mk (fun hc => ?_) (fun hc => ?_))
    | (refine PreP.mk (hpk _) ?_)
    | (refine OptP.some hlk ?_)
    | ((with_reducible first | apply NeedRows.mk | apply NeedMap.mk | apply NeedIter.mk); · exact ab_look)
    | ((with_reducible apply NeedLen.mk); · first | assumption | rfl)
    | ((with_reducible apply NeedRow.mk); · exact ab_lookR)
    | ((with_reducible apply DrawG.mk (List.replicate 60 false)); · decide +kernel)
    | (with_reducible first | refine NewP.mk (fun id hid => ?_) | refine NilP.mk (fun e he => ?_))
    | (with_reducible first | exact trivial | exact And.intro rfl rfl)
    | ((with_reducible apply PreP.mk); · exact ab_asked)
    | refine Exists.intro _ (PreP.mk (bytesOf_lst _) ?_)
    | refine PreP.mk (lenD_lst _) ?_
    | (with_reducible first | refine PreP.mk ?_ ?_ | refine BothP.mk ?_ ?_)
    | ((with_reducible apply AncOr.anc); · decide +kernel)
    | with_reducible refine AncOr.go ?_)
  rename_i id0 hid0
  refine CallOK.go (c20 _ n t [103] _ (.inr rfl)) (fun r2 H2 hr => ?_)
  obtain ⟨rfl, rfl⟩ := hr
  have hne : id ≠ id0 := by rw [hid, hid0, List.length_append]; simp
  repeat' (first
    | ((with_reducible apply Onw.mk); conv => whnf)
    | (with_reducible first | apply Br.tt | apply Br.ff | apply Br.no)
    | ((with_reducible apply Br.t); · assumption)
    | ((with_reducible apply Br.f); · assumption)
    | ((with_reducible apply Br.dt); · exact ab_known)
    | ((with_reducible apply Br.df); · exact ab_known)
    | (with_reducible first | refine Br.dec (fun hc => ?_) (fun hc => ?_) | refine Br.mk (fun hc => ?_) (fun hc => ?_))
    | ((with_reducible first | apply NeedRows.mk | apply NeedMap.mk | apply NeedIter.mk); · exact ab_look)
    | ((with_reducible apply NeedLen.mk); · first | assumption | rfl)
    | ((with_reducible apply NeedRow.mk); · exact ab_lookR)
    | ((with_reducible apply DrawG.mk (List.replicate 60 false)); · decide +kernel)
    | (with_reducible first | refine NewP.mk (fun id hid => ?_) | refine NilP.mk (fun e he => ?_))
    | (with_reducible first | exact trivial | exact And.intro rfl rfl)
    | ((with_reducible apply PreP.mk); · exact ab_asked)
    | refine Exists.intro _ (PreP.mk (bytesOf_lst _) ?_)
    | refine PreP.mk (lenD_lst _) ?_
    | (with_reducible first | refine PreP.mk ?_ ?_ | refine BothP.mk ?_ ?_)
    | ((with_reducible apply AncOr.anc); · decide +kernel)
    | with_reducible refine AncOr.go ?_)
  refine ⟨⟨t, ht, rfl⟩, prefix_of (fun j o hj => ?_)⟩
  have hlt := nth_lt hj
  rw [List.length_append] at hid
  exact nth_setN_ne (by omega) (nth_setN_ne (by simp at hid; omega) (nth_app (nth_app hj)))
theorem s15out (H : Heap) (r mid : Nat) (low : Int) (l : List (Int × Int)) (bs : List Nat) (ck : Nat) (h : RcAt H r mid low l bs ck) (n : Int) (hin : n ∉ l.map (·.1)) :
    Ab.Spec Try.prog 15 [.ptr r 0 0, i64 n] H (fun res H' => res = .tup [.p (batG 0 0 [] (.lst [])), boolD false] ∧ ∃ x, H' = H ++ x) := by
  have hr1 := h.row
  have hr2 := h.map
  have hlt1 := nth_lt hr1
  have hlt2 := nth_lt hr2
  have hpk : ∀ n : Int, keysOk (.int .i64) (l.map entR) ∧ keyOk (.int .i64) (.int .i64 n) = true := fun n => ⟨keysOk_ent l, rfl⟩
  have hlk := lookE_out hin
  refine Ab.Spec.walk hm Try.func15 (by kernel_rfl) 100 ?_
  repeat' (first
    | ((with_reducible apply Onw.mk); conv => whnf)
    | (with_reducible first | apply Br.tt | apply Br.ff | apply Br.no)
    | ((with_reducible apply Br.t); · assumption)
    | ((with_reducible apply Br.f); · assumption)
    | ((with_reducible apply Br.dt); · exact ab_known)
    | ((with_reducible apply Br.df); · exact ab_known)
    | (with_reducible first | refine Br.dec (fun hc => ?_) (fun hc => ?_) | refine Br.mk (fun hc => ?_) (fun hc => ?_))
    | (refine PreP.mk (hpk _) ?_)
    | (refine OptP.none hlk ?_)
    | ((with_reducible first | apply NeedRows.mk | apply NeedMap.mk | apply NeedIter.mk); · exact ab_look)
    | ((with_reducible apply NeedLen.mk); · first | assumption | rfl)
    | ((with_reducible apply NeedRow.mk); · exact ab_lookR)
    | ((with_reducible apply DrawG.mk (List.replicate 60 false)); · decide +kernel)
    | (with_reducible first | refine NewP.mk (fun id hid => ?_) | refine NilP.mk (fun e he => ?_))
    | (with_reducible first | exact trivial | exact And.intro rfl rfl)
    | ((with_reducible apply PreP.mk); · exact ab_asked)
    | refine Exists.intro _ (PreP.mk (bytesOf_lst _) ?_)
    | refine PreP.mk (lenD_lst _) ?_
    | (with_reducible first | refine PreP.mk ?_ ?_ | refine BothP.mk ?_ ?_)
    | ((with_reducible apply AncOr.anc); · decide +kernel)
    | with_reducible refine AncOr.go ?_)
  rename_i id0 hid0
  refine CallOK.go (c20 _ 0 0 [] _ (.inl rfl)) (fun r2 H2 hr => ?_)
  obtain ⟨rfl, rfl⟩ := hr
  have hne : id ≠ id0 := by rw [hid, hid0, List.length_append]; simp
  repeat' (first
    | ((with_reducible apply Onw.mk); conv => whnf)
    | (with_reducible first | apply Br.tt | apply Br.ff | apply Br.no)
    | ((with_reducible apply Br.t); · assumption)
    | ((with_reducible apply Br.f); · assumption)
    | ((with_reducible apply Br.dt); · exact ab_known)
    | ((with_reducible apply Br.df); · exact ab_known)
    | (with_reducible first | refine Br.dec (fun hc => ?_) (fun hc => ?_) | refine Br.mk (fun hc => ?_) (fun hc => ?_))
    | ((with_reducible first | apply NeedRows.mk | apply NeedMap.mk | apply NeedIter.mk); · exact ab_look)
    | ((with_reducible apply NeedLen.mk); · first | assumption | rfl)
    | ((with_reducible apply NeedRow.mk); · exact ab_lookR)
    | ((with_reducible apply DrawG.mk (List.replicate 60 false)); · decide +kernel)
    | (with_reducible first | refine NewP.mk (fun id hid => ?_) | refine NilP.mk (fun e he => ?_))
    | (with_reducible first | exact trivial | exact And.intro rfl rfl)
    | ((with_reducible apply PreP.mk); · exact ab_asked)
    | refine Exists.intro _ (PreP.mk (bytesOf_lst _) ?_)
    | refine PreP.mk (lenD_lst _) ?_
    | (with_reducible first | refine PreP.mk ?_ ?_ | refine BothP.mk ?_ ?_)
    | ((with_reducible apply AncOr.anc); · decide +kernel)
    | with_reducible refine AncOr.go ?_)
  refine ⟨rfl, prefix_of (fun j o hj => ?_)⟩
  have hlt := nth_lt hj
  rw [List.length_append] at hid
  exact nth_setN_ne (by omega) (nth_setN_ne (by simp at hid; omega) (nth_app (nth_app hj)))
theorem c15in {H : Heap} {r mid : Nat} {low : Int} {l : List (Int × Int)} {bs : List Nat} {ck : Nat} (h : RcAt H r mid low l bs ck) {n : Int} (hin : n ∈ l.map (·.1)) :
    CallOK Try.prog 15 [.ptr r 0 0, i64 n] H (fun res H' => (∃ t, (n, t) ∈ l ∧ res = .tup [.p (batP n t (.lst [])), boolD true]) ∧ H' = H) :=
  (CallOK.trim (Q := fun res => ∃ t, (n, t) ∈ l ∧ res = .tup [.p (batP n t (.lst [])), boolD true]) ((CallOK.of_spec (s15in H r mid low l bs ck h n hin)).mono (fun _ _ hr => ⟨hr.2, by obtain ⟨⟨m, _, rfl⟩, _⟩ := hr; rfl, hr.1⟩))).mono (fun _ _ hr => ⟨hr.2.2, hr.1⟩)
theorem c15out {H : Heap} {r mid : Nat} {low : Int} {l : List (Int × Int)} {bs : List Nat} {ck : Nat} (h : RcAt H r mid low l bs ck) {n : Int} (hin : n ∉ l.map (·.1)) :
    CallOK Try.prog 15 [.ptr r 0 0, i64 n] H (fun res H' => res = .tup [.p (batG 0 0 [] (.lst [])), boolD false] ∧ H' = H) :=
  (CallOK.trim (Q := fun res => res = .tup [.p (batG 0 0 [] (.lst [])), boolD false]) ((CallOK.of_spec (s15out H r mid low l bs ck h n hin)).mono (fun _ _ hr => ⟨hr.2, by rw [hr.1]; rfl, hr.1⟩))).mono (fun _ _ hr => ⟨hr.2.2, hr.1⟩)
theorem c22 (H : Heap) (mid : Nat) : CallOK Try.prog 22 [.mp mid] H (fun r H' => r = .fn (.func 39) [] [.box mid] ∧ H' = H) :=
  CallOK.keysFnI Try.keys22 rfl rfl (Enters.mk Try.func22 rfl (by kernel_rfl)) mid
theorem c21 {H : Heap} {r mid : Nat} {low : Int} {l : List (Int × Int)} {bs : List Nat} {ck : Nat} (h : RcAt H r mid low l bs ck) (hk : ∀ k ∈ l.map (·.1), 0 ≤ k ∧ k ≤ 1000) (hn : l.length ≤ 1000000) :
    CallOK Try.prog 21 [.fn (.func 39) [] [.box mid]] H (fun r H' => r = .p (.lst (((l.map (·.1)).mergeSort leI).map intRowZ)) ∧ H' = H) :=
  CallOK.sortedKeysI (k := 3) (ρk := Try.keys22_ren) (ρs := Try.sorted21_ren) (ρm := Try.sort38_ren) { Try.keys22 with } Try.sorted21 Try.sort38 Try.underlying3 (Maps.int_keyed Try.underlying3) rfl rfl rfl rfl rfl
    (Enters.mk Try.func21 rfl (by kernel_rfl)) (Enters.mk Try.func38 rfl (by kernel_rfl)) (Enters.mk Try.func39 rfl (by kernel_rfl)) (l := l) (n := fun f => f.1) (v := fun f => .p (batP f.1 f.2 (.lst []))) h.map h.keys
    (fun f hf => by have := hk f.1 (List.mem_map.2 ⟨f, hf, rfl⟩); simp [Lit.wf, IntKind.min, IntKind.max, IntKind.bits, IntKind.signed]; omega) h.ok.nodup h.ok.lt hn
end Go.Proofs.Ytjlhkbikconboaa
