/- What functions of the disk, and of the laws over it, do. Conditions: those that each theorem names. -/
import Derived.Test.YtanknokhbfijdaaD6
import Derived.Test.YtanknokhbfijdaaKc
import Derived.Test.YtanknokhbfijdaaLaid
set_option linter.unusedVariables false
set_option linter.unusedSimpArgs false
namespace Go.Proofs.Ytanknokhbfijdaa
open Go.Ab
set_option maxRecDepth 100000
set_option maxHeartbeats 1000000
attribute [local irreducible] Run CallOK DetCall Br PreP BothP AncOr Onw NeedRows NeedMap NeedRow NeedLen NilP NeedIter RoundP EntryP EqP OptP NewP NewSlice NewMade AppTo DrawG anc drawB
theorem c52 (H : Heap) (mid : Nat) : CallOK Try.prog 52 [.mp mid] H (fun r H' => r = .fn (.func 72) [] [.box mid] ∧ H' = H) :=
  CallOK.keysFn Try.keys52 rfl rfl (Enters.mk Try.func52 rfl (by kernel_rfl)) mid
/-- The names, sorted. -/
def namesS (k : Dk) : List (List UInt8) := (k.files.map (·.name)).mergeSort leB
theorem c51 (H : Heap) (d : Nat) (k : Dk) (h : DiskAt H d k) (hlen : ∀ f ∈ k.files, f.name.length ≤ 1000) (hn : k.files.length ≤ 1000000) :
    CallOK Try.prog 51 [.fn (.func 72) [] [.box k.mid]] H (fun r H' => r = .p (.lst ((namesS k).map strRow)) ∧ H' = H) :=
  CallOK.sortedKeys (k := 9) (ρk := Try.keys52_ren) (ρs := Try.sorted51_ren) (ρm := Try.sort71_ren) { Try.keys52 with } Try.sorted51 Try.sort71 Try.underlying9 (Maps.string_keyed Try.underlying9) rfl rfl rfl rfl rfl
    (Enters.mk Try.func51 rfl (by kernel_rfl)) (Enters.mk Try.func71 rfl (by kernel_rfl)) (Enters.mk Try.func72 rfl (by kernel_rfl)) (l := k.files) (n := fun f => f.name) (v := fun f => .ptr f.fid 0 0) h.map h.names
    (fun f hf => Nat.le_trans (hlen f hf) (by unfold maxLen; decide)) h.nodup h.lt hn
def listR (k : Dk) : D := bif offB k.steps k.off then .p .nil else .p (.lst ((namesS k).map strRow))
theorem s23 (H : Heap) (d : Nat) (k : Dk) (h : DiskAt H d k) (hlen : ∀ f ∈ k.files, f.name.length ≤ 1000) (hn : k.files.length ≤ 1000000) :
    Ab.Spec Try.prog 23 [.ptr d 0 0] H (fun r H' => H' = H ∧ r = listR k) := by
  have h0 := h.row
  unfold dRow at h0
  refine Ab.Spec.walk hm Try.func23 (by kernel_rfl) 100 ?_
  repeat' (first
    | ((with_reducible apply Onw.mk); conv => whnf)
    | (with_reducible first | apply Br.tt | apply Br.ff | apply Br.no)
    | ((with_reducible apply Br.t); · assumption)
    | ((with_reducible apply Br.f); · assumption)
    | ((with_reducible apply Br.dt); · exact ab_known)
    | ((with_reducible apply Br.df); · exact ab_known)
    | (with_reducible first | refine Br.dec (fun hc => ?_) (fun hc => ?_) | refine Br.mk (fun hc => ?_) (fun hc => ?_))
    | ((with_reducible first | apply NeedRows.mk | apply NeedMap.mk | apply NeedIter.mk); · exact ab_look)
    | ((with_reducible apply NeedLen.mk); · first | assumption | rfl)
    | ((with_reducible apply NeedRow.mk); · exact ab_lookR)
    | ((with_reducible apply DrawG.mk (List.replicate 60 false)); · decide +kernel)
    | (with_reducible first | refine NewP.mk (fun id hid => ?_) | refine NilP.mk (fun e he => ?_))
    | (with_reducible first | exact trivial | exact And.intro rfl rfl)
    | ((with_reducible apply PreP.mk); · exact ab_asked)
    | refine Exists.intro _ (PreP.mk (bytesOf_lst _) ?_)
    | refine PreP.mk (lenD_lst _) ?_
    | (with_reducible first | refine PreP.mk ?_ ?_ | refine BothP.mk ?_ ?_)
    | ((with_reducible apply AncOr.anc); · decide +kernel)
    | with_reducible refine AncOr.go ?_)
  refine CallOK.go (CallOK.of_spec (s50 _ _ _ _ _ h0)) (fun r H' hr => ?_)
  obtain ⟨rfl, rfl⟩ := hr
  repeat' (first
    | ((with_reducible apply Onw.mk); conv => whnf)
    | (with_reducible first | apply Br.tt | apply Br.ff | apply Br.no)
    | ((with_reducible apply Br.t); · assumption)
    | ((with_reducible apply Br.f); · assumption)
    | ((with_reducible apply Br.dt); · exact ab_known)
    | ((with_reducible apply Br.df); · exact ab_known)
    | (with_reducible first | refine Br.dec (fun hc => ?_) (fun hc => ?_) | refine Br.mk (fun hc => ?_) (fun hc => ?_))
    | ((with_reducible first | apply NeedRows.mk | apply NeedMap.mk | apply NeedIter.mk); · exact ab_look)
    | ((with_reducible apply NeedLen.mk); · first | assumption | rfl)
    | ((with_reducible apply NeedRow.mk); · exact ab_lookR)
    | ((with_reducible apply DrawG.mk (List.replicate 60 false)); · decide +kernel)
    | (with_reducible first | refine NewP.mk (fun id hid => ?_) | refine NilP.mk (fun e he => ?_))
    | (with_reducible first | exact trivial | exact And.intro rfl rfl)
    | ((with_reducible apply PreP.mk); · exact ab_asked)
    | refine Exists.intro _ (PreP.mk (bytesOf_lst _) ?_)
    | refine PreP.mk (lenD_lst _) ?_
    | (with_reducible first | refine PreP.mk ?_ ?_ | refine BothP.mk ?_ ?_)
    | ((with_reducible apply AncOr.anc); · decide +kernel)
    | with_reducible refine AncOr.go ?_)
  · exact ⟨rfl, by simp [listR, hc]; rfl⟩
  refine CallOK.go (c52 _ _) (fun r H' hr => ?_)
  obtain ⟨rfl, rfl⟩ := hr
  repeat' (first
    | ((with_reducible apply Onw.mk); conv => whnf)
    | (with_reducible first | apply Br.tt | apply Br.ff | apply Br.no)
    | ((with_reducible apply Br.t); · assumption)
    | ((with_reducible apply Br.f); · assumption)
    | ((with_reducible apply Br.dt); · exact ab_known)
    | ((with_reducible apply Br.df); · exact ab_known)
    | (with_reducible first | refine Br.dec (fun hc => ?_) (fun hc => ?_) | refine Br.mk (fun hc => ?_) (fun hc => ?_))
    | ((with_reducible first | apply NeedRows.mk | apply NeedMap.mk | apply NeedIter.mk); · exact ab_look)
    | ((with_reducible apply NeedLen.mk); · first | assumption | rfl)
    | ((with_reducible apply NeedRow.mk); · exact ab_lookR)
    | ((with_reducible apply DrawG.mk (List.replicate 60 false)); · decide +kernel)
    | (with_reducible first | refine NewP.mk (fun id hid => ?_) | refine NilP.mk (fun e he => ?_))
    | (with_reducible first | exact trivial | exact And.intro rfl rfl)
    | ((with_reducible apply PreP.mk); · exact ab_asked)
    | refine Exists.intro _ (PreP.mk (bytesOf_lst _) ?_)
    | refine PreP.mk (lenD_lst _) ?_
    | (with_reducible first | refine PreP.mk ?_ ?_ | refine BothP.mk ?_ ?_)
    | ((with_reducible apply AncOr.anc); · decide +kernel)
    | with_reducible refine AncOr.go ?_)
  refine CallOK.go (c51 _ _ _ h hlen hn) (fun r H' hr => ?_)
  obtain ⟨rfl, rfl⟩ := hr
  repeat' (first
    | ((with_reducible apply Onw.mk); conv => whnf)
    | (with_reducible first | apply Br.tt | apply Br.ff | apply Br.no)
    | ((with_reducible apply Br.t); · assumption)
    | ((with_reducible apply Br.f); · assumption)
    | ((with_reducible apply Br.dt); · exact ab_known)
    | ((with_reducible apply Br.df); · exact ab_known)
    | (with_reducible first | refine Br.dec (fun hc => ?_) (fun hc => ?_) | refine Br.mk (fun hc => ?_) (fun hc => ?_))
    | ((with_reducible first | apply NeedRows.mk | apply NeedMap.mk | apply NeedIter.mk); · exact ab_look)
    | ((with_reducible apply NeedLen.mk); · first | assumption | rfl)
    | ((with_reducible apply NeedRow.mk); · exact ab_lookR)
    | ((with_reducible apply DrawG.mk (List.replicate 60 false)); · decide +kernel)
    | (with_reducible first | refine NewP.mk (fun id hid => ?_) | refine NilP.mk (fun e he => ?_))
    | (with_reducible first | exact trivial | exact And.intro rfl rfl)
    | ((with_reducible apply PreP.mk); · exact ab_asked)
    | refine Exists.intro _ (PreP.mk (bytesOf_lst _) ?_)
    | refine PreP.mk (lenD_lst _) ?_
    | (with_reducible first | refine PreP.mk ?_ ?_ | refine BothP.mk ?_ ?_)
    | ((with_reducible apply AncOr.anc); · decide +kernel)
    | with_reducible refine AncOr.go ?_)
  exact ⟨rfl, by simp [listR, hc]; rfl⟩
end Go.Proofs.Ytanknokhbfijdaa
