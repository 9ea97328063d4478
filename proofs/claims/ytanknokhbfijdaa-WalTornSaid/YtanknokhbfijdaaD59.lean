/- What functions of the disk, and of the laws over it, do. Conditions: those that each theorem names. -/
import Derived.Test.YtanknokhbfijdaaD57
set_option linter.unusedVariables false
set_option linter.unusedSimpArgs false
namespace Go.Proofs.Ytanknokhbfijdaa
open Go.Ab
set_option maxRecDepth 100000
set_option maxHeartbeats 1000000
attribute [local irreducible] Run CallOK DetCall Br PreP BothP AncOr Onw NeedRows NeedMap NeedRow NeedLen NilP NeedIter RoundP EntryP EqP OptP NewP NewSlice NewMade AppTo DrawG anc drawB
/-- The disk's calls once more: to a heap that is known ahead. -/
theorem det16 {H : Heap} {d : Nat} {m : Ds} {ids : List Nat} (h : DiskIs H d m ids) (ho : DsOK m) (name b : List UInt8) (hn : name.length ≤ 1000) (hb : b.length ≤ 100000) :
    ∃ H', CallOK Try.prog 16 [.ptr d 0 0, .p (.str name), .p (.lst (b.map byteRow))] H (fun r H'' => r = i64 (appendR m name b) ∧ H'' = H') ∧ ∃ ids', DiskIs H' d (appendM m name b) ids' ∧ Goes H ids H' ids' := by
  obtain ⟨k, h, hk, rfl, rfl⟩ := h
  exact ⟨_, (c16k h ho name b hn hb).mono (fun r H' hr => ⟨by rw [hr.1, appendE_plain], hr.2⟩), appendHk_is h hk ho name b hb⟩
theorem det17 {H : Heap} {d : Nat} {m : Ds} {ids : List Nat} (h : DiskIs H d m ids) (ho : DsOK m) (name : List UInt8) :
    ∃ H', CallOK Try.prog 17 [.ptr d 0 0, .p (.str name)] H (fun r H'' => r = i64 (errM m name) ∧ H'' = H') ∧ ∃ ids', DiskIs H' d (syncM m name) ids' ∧ Goes H ids H' ids' := by
  obtain ⟨k, h, hk, rfl, rfl⟩ := h
  have hs1 : k.steps < 1000000000000 := ho.s1
  exact ⟨_, (CallOK.of_spec (s17 H d k name h ho.s0 (by omega))).mono (fun r H' hr => by obtain ⟨rfl, rfl⟩ := hr; exact ⟨by rw [errR_plain], rfl⟩), syncH_is h hk name⟩
theorem det25 {H : Heap} {d : Nat} {m : Ds} {ids : List Nat} (h : DiskIs H d m ids) (ho : DsOK m) (a b : List UInt8) (hb : b.length ≤ 1000) :
    ∃ H', CallOK Try.prog 25 [.ptr d 0 0, .p (.str a), .p (.str b)] H (fun r H'' => r = i64 (renameR m a b) ∧ H'' = H') ∧ ∃ ids', DiskIs H' d (renameM m a b) ids' ∧ Goes H ids H' ids' := by
  obtain ⟨k, h, hk, rfl, rfl⟩ := h
  have hs1 : k.steps < 1000000000000 := ho.s1
  exact ⟨_, (CallOK.of_spec (s25 H d k a b hb h ho.s0 (by omega))).mono (fun r H' hr => by obtain ⟨rfl, rfl⟩ := hr; exact ⟨by rw [renameE_plain], rfl⟩), renameH_is h hk a b hb⟩
def nNew : List UInt8 := [108, 111, 103, 46, 110, 101, 119]
theorem a68 {H : Heap} {d : Nat} {st q : Int} {b : List UInt8} {kp : Nat} {ids : List Nat} (h : DiskIs H d ⟨st, 0, q, [⟨nLog, b, kp⟩]⟩ ids) (h0 : 0 ≤ st) (h1 : st < 999999990000) (hq2 : q ≤ 1000000) (c : List UInt8) (hq : (b.length : Int) + c.length ≤ q) (hcl : c.length ≤ 100000) :
    ∃ H', CallOK Try.prog 68 [.agg [.ptr d 0 0, .p (.str nLog)], .p (.lst (c.map byteRow))] H (fun r H'' => r = i64 0 ∧ H'' = H') ∧ ∃ ids', DiskIs H' d ⟨st + 1 + 1 + 1, 0, q, [⟨nLog, c, c.length⟩]⟩ ids' ∧ Goes H ids H' ids' := by
  have hE1 : appendR ⟨st, 0, q, [⟨nLog, b, kp⟩]⟩ nNew c = 0 := by
    rw [appR_val (by simp [offB]) (by decide) hq2 (show 0 ≤ q by omega) (by simp [usedM]; omega) (by simp), if_neg]
    simp [usedM]; omega
  have hM1 : appendM ⟨st, 0, q, [⟨nLog, b, kp⟩]⟩ nNew c = ⟨st + 1, 0, q, [⟨nLog, b, kp⟩, ⟨nNew, c, 0⟩]⟩ := by
    unfold appendM; rw [hE1]; simp [stepM, addP, nLog, nNew]
  have hE2 : errM ⟨st + 1, 0, q, [⟨nLog, b, kp⟩, ⟨nNew, c, 0⟩]⟩ nNew = 0 := by
    unfold errM; simp [offB, findM, nLog, nNew]
  have hM2 : syncM ⟨st + 1, 0, q, [⟨nLog, b, kp⟩, ⟨nNew, c, 0⟩]⟩ nNew = ⟨st + 1 + 1, 0, q, [⟨nLog, b, kp⟩, ⟨nNew, c, c.length⟩]⟩ := by
    unfold syncM; rw [hE2]; simp [stepM, nLog, nNew]
  have hE3 : renameR ⟨st + 1 + 1, 0, q, [⟨nLog, b, kp⟩, ⟨nNew, c, c.length⟩]⟩ nNew nLog = 0 := by
    unfold renameR; simp [offB, findM, nLog, nNew, okName]; decide
  have hM3 : renameM ⟨st + 1 + 1, 0, q, [⟨nLog, b, kp⟩, ⟨nNew, c, c.length⟩]⟩ nNew nLog = ⟨st + 1 + 1 + 1, 0, q, [⟨nLog, c, c.length⟩]⟩ := by
    unfold renameM; rw [hE3]; simp [stepM, findM, nLog, nNew, putP]
  have hth : thereM ⟨st, 0, q, [⟨nLog, b, kp⟩]⟩ nNew = false := by simp [thereM, nLog, nNew]
  obtain ⟨H0, hH0⟩ : ∃ H0, H0 = H ++ [.rows [[.ptr d 0 0, .p (.str nLog)]]] := ⟨_, rfl⟩
  have hg0 : Goes H [] H0 [] := by rw [hH0]; exact Goes.app H _ []
  have hd0 : DiskIs H0 d ⟨st, 0, q, [⟨nLog, b, kp⟩]⟩ ids := h.move hg0 (fun j _ hj => by cases hj)
  have ho0 : DsOK ⟨st, 0, q, [⟨nLog, b, kp⟩]⟩ := DsOK.one h0 (by omega) (by omega)
  obtain ⟨H1, hc1, ids1, hd1, hg1⟩ := det16 hd0 ho0 nNew c (by decide) (by omega)
  rw [hE1] at hc1; rw [hM1] at hd1
  obtain ⟨H2, hc2, ids2, hd2, hg2⟩ := det17 hd1 ⟨by simp only []; omega, by simp only []; omega, by simp [usedM]; omega, by simp⟩ nNew
  rw [hE2] at hc2; rw [hM2] at hd2
  obtain ⟨H3, hc3, ids3, hd3, hg3⟩ := det25 hd2 ⟨by simp only []; omega, by simp only []; omega, by simp [usedM]; omega, by simp⟩ nNew nLog (by decide)
  rw [hE3] at hc3; rw [hM3] at hd3
  have hgi : Goes H ids H0 ids := ⟨fun j o _ ho => hg0.out j o (by simp) ho, fun _ h => .inl h, hg0.len⟩
  refine ⟨H3, CallOK.of_spec ?_, ids3, hd3, hgi.trans (hg1.trans (hg2.trans hg3))⟩
  have hl := h.lt
  have hrow0 : nth H0 H.length = some (.rows [[.ptr d 0 0, .p (.str nLog)]]) := by rw [hH0]; exact nth_new rfl
  have hout0 : H.length ∉ ids := fun e => by have := hl _ e; omega
  have hlt0 : H.length < H0.length := nth_lt hrow0
  have hap1 := hg1.apart (c := [H.length]) (fun j hj => by simp at hj; subst hj; exact hout0) (fun j hj => by simp at hj; subst hj; exact hlt0) H.length (by simp)
  have hrow1 := hg1.out _ _ hout0 hrow0
  have hlt1 := nth_lt hrow1
  have hap2 := hg2.apart (c := [H.length]) (fun j hj => by simp at hj; subst hj; exact hap1) (fun j hj => by simp at hj; subst hj; exact hlt1) H.length (by simp)
  have hrow2 := hg2.out _ _ hap1 hrow1
  refine Ab.Spec.walk hm Try.func68 (by kernel_rfl) 200 ?_
  repeat' (first
    | ((with_reducible apply Onw.mk); conv => whnf)
    | (with_reducible first | apply Br.tt | apply Br.ff | apply Br.no)
    | ((with_reducible apply Br.t); · assumption)
    | ((with_reducible apply Br.f); · assumption)
    | ((with_reducible apply Br.dt); · exact ab_known)
    | ((with_reducible apply Br.df); · exact ab_known)
    | (with_reducible first | refine Br.dec (fun hc => ?_) (fun hc => ?_) | refine Br.mk (fun hc => ?_) (fun hc => ?_))
    | ((with_reducible first | apply NeedRows.mk | apply NeedMap.mk | apply NeedIter.mk); · exact ab_look)
    | ((with_reducible apply NeedLen.mk); · first | assumption | rfl)
    | ((with_reducible apply NeedRow.mk); · exact ab_lookR)
    | ((with_reducible apply DrawG.mk (List.replicate 60 false)); · decide +kernel)
    | (with_reducible first | refine NewP.mk (fun id hid => ?_) | refine NilP.mk (fun e he => ?_))
    | (with_reducible first | exact trivial | exact And.intro rfl rfl)
    | ((with_reducible apply PreP.mk); · exact ab_asked)
    | refine Exists.intro _ (PreP.mk (bytesOf_lst _) ?_)
    | refine PreP.mk (lenD_lst _) ?_
    | (with_reducible first | refine PreP.mk ?_ ?_ | refine BothP.mk ?_ ?_)
    | ((with_reducible apply AncOr.anc); · decide +kernel)
    | with_reducible refine AncOr.go ?_)
  · decide
  have en : nLog ++ (⟨#[46, 110, 101, 119]⟩ : ByteArray).data.toList = nNew := rfl
  rw [en, ← hH0]
  subst hid
  refine CallOK.go (a23 hd0 ho0) (fun r H4 hr => ?_)
  obtain ⟨rfl, rfl⟩ := hr
  repeat' (first
    | ((with_reducible apply Onw.mk); conv => whnf)
    | (with_reducible first | apply Br.tt | apply Br.ff | apply Br.no)
    | ((with_reducible apply Br.t); · assumption)
    | ((with_reducible apply Br.f); · assumption)
    | ((with_reducible apply Br.dt); · exact ab_known)
    | ((with_reducible apply Br.df); · exact ab_known)
    | (with_reducible first | refine Br.dec (fun hc => ?_) (fun hc => ?_) | refine Br.mk (fun hc => ?_) (fun hc => ?_))
    | ((with_reducible first | apply NeedRows.mk | apply NeedMap.mk | apply NeedIter.mk); · exact ab_look)
    | ((with_reducible apply NeedLen.mk); · first | assumption | rfl)
    | ((with_reducible apply NeedRow.mk); · exact ab_lookR)
    | ((with_reducible apply DrawG.mk (List.replicate 60 false)); · decide +kernel)
    | (with_reducible first | refine NewP.mk (fun id hid => ?_) | refine NilP.mk (fun e he => ?_))
    | (with_reducible first | exact trivial | exact And.intro rfl rfl)
    | ((with_reducible apply PreP.mk); · exact ab_asked)
    | refine Exists.intro _ (PreP.mk (bytesOf_lst _) ?_)
    | refine PreP.mk (lenD_lst _) ?_
    | (with_reducible first | refine PreP.mk ?_ ?_ | refine BothP.mk ?_ ?_)
    | ((with_reducible apply AncOr.anc); · decide +kernel)
    | with_reducible refine AncOr.go ?_)
  refine CallOK.go (a69 _ _ nNew (by simp)) (fun r H4 hr => ?_)
  obtain ⟨rfl, rfl⟩ := hr
  rw [hth]
  repeat' (first
    | ((with_reducible apply Onw.mk); conv => whnf)
    | (with_reducible first | apply Br.tt | apply Br.ff | apply Br.no)
    | ((with_reducible apply Br.t); · assumption)
    | ((with_reducible apply Br.f); · assumption)
    | ((with_reducible apply Br.dt); · exact ab_known)
    | ((with_reducible apply Br.df); · exact ab_known)
    | (with_reducible first | refine Br.dec (fun hc => ?_) (fun hc => ?_) | refine Br.mk (fun hc => ?_) (fun hc => ?_))
    | ((with_reducible first | apply NeedRows.mk | apply NeedMap.mk | apply NeedIter.mk); · exact ab_look)
    | ((with_reducible apply NeedLen.mk); · first | assumption | rfl)
    | ((with_reducible apply NeedRow.mk); · exact ab_lookR)
    | ((with_reducible apply DrawG.mk (List.replicate 60 false)); · decide +kernel)
    | (with_reducible first | refine NewP.mk (fun id hid => ?_) | refine NilP.mk (fun e he => ?_))
    | (with_reducible first | exact trivial | exact And.intro rfl rfl)
    | ((with_reducible apply PreP.mk); · exact ab_asked)
    | refine Exists.intro _ (PreP.mk (bytesOf_lst _) ?_)
    | refine PreP.mk (lenD_lst _) ?_
    | (with_reducible first | refine PreP.mk ?_ ?_ | refine BothP.mk ?_ ?_)
    | ((with_reducible apply AncOr.anc); · decide +kernel)
    | with_reducible refine AncOr.go ?_)
  refine CallOK.go hc1 (fun r H4 hr => ?_)
  obtain ⟨rfl, rfl⟩ := hr
  repeat' (first
    | ((with_reducible apply Onw.mk); conv => whnf)
    | (with_reducible first | apply Br.tt | apply Br.ff | apply Br.no)
    | ((with_reducible apply Br.t); · assumption)
    | ((with_reducible apply Br.f); · assumption)
    | ((with_reducible apply Br.dt); · exact ab_known)
    | ((with_reducible apply Br.df); · exact ab_known)
    | (with_reducible first | refine Br.dec (fun hc => ?_) (fun hc => ?_) | refine Br.mk (fun hc => ?_) (fun hc => ?_))
    | ((with_reducible first | apply NeedRows.mk | apply NeedMap.mk | apply NeedIter.mk); · exact ab_look)
    | ((with_reducible apply NeedLen.mk); · first | assumption | rfl)
    | ((with_reducible apply NeedRow.mk); · exact ab_lookR)
    | ((with_reducible apply DrawG.mk (List.replicate 60 false)); · decide +kernel)
    | (with_reducible first | refine NewP.mk (fun id hid => ?_) | refine NilP.mk (fun e he => ?_))
    | (with_reducible first | exact trivial | exact And.intro rfl rfl)
    | ((with_reducible apply PreP.mk); · exact ab_asked)
    | refine Exists.intro _ (PreP.mk (bytesOf_lst _) ?_)
    | refine PreP.mk (lenD_lst _) ?_
    | (with_reducible first | refine PreP.mk ?_ ?_ | refine BothP.mk ?_ ?_)
    | ((with_reducible apply AncOr.anc); · decide +kernel)
    | with_reducible refine AncOr.go ?_)
  refine CallOK.go hc2 (fun r H4 hr => ?_)
  obtain ⟨rfl, rfl⟩ := hr
  repeat' (first
    | ((with_reducible apply Onw.mk); conv => whnf)
    | (with_reducible first | apply Br.tt | apply Br.ff | apply Br.no)
    | ((with_reducible apply Br.t); · assumption)
    | ((with_reducible apply Br.f); · assumption)
    | ((with_reducible apply Br.dt); · exact ab_known)
    | ((with_reducible apply Br.df); · exact ab_known)
    | (with_reducible first | refine Br.dec (fun hc => ?_) (fun hc => ?_) | refine Br.mk (fun hc => ?_) (fun hc => ?_))
    | ((with_reducible first | apply NeedRows.mk | apply NeedMap.mk | apply NeedIter.mk); · exact ab_look)
    | ((with_reducible apply NeedLen.mk); · first | assumption | rfl)
    | ((with_reducible apply NeedRow.mk); · exact ab_lookR)
    | ((with_reducible apply DrawG.mk (List.replicate 60 false)); · decide +kernel)
    | (with_reducible first | refine NewP.mk (fun id hid => ?_) | refine NilP.mk (fun e he => ?_))
    | (with_reducible first | exact trivial | exact And.intro rfl rfl)
    | ((with_reducible apply PreP.mk); · exact ab_asked)
    | refine Exists.intro _ (PreP.mk (bytesOf_lst _) ?_)
    | refine PreP.mk (lenD_lst _) ?_
    | (with_reducible first | refine PreP.mk ?_ ?_ | refine BothP.mk ?_ ?_)
    | ((with_reducible apply AncOr.anc); · decide +kernel)
    | with_reducible refine AncOr.go ?_)
  refine CallOK.go hc3 (fun r H4 hr => ?_)
  obtain ⟨rfl, rfl⟩ := hr
  repeat' (first
    | ((with_reducible apply Onw.mk); conv => whnf)
    | (with_reducible first | apply Br.tt | apply Br.ff | apply Br.no)
    | ((with_reducible apply Br.t); · assumption)
    | ((with_reducible apply Br.f); · assumption)
    | ((with_reducible apply Br.dt); · exact ab_known)
    | ((with_reducible apply Br.df); · exact ab_known)
    | (with_reducible first | refine Br.dec (fun hc => ?_) (fun hc => ?_) | refine Br.mk (fun hc => ?_) (fun hc => ?_))
    | ((with_reducible first | apply NeedRows.mk | apply NeedMap.mk | apply NeedIter.mk); · exact ab_look)
    | ((with_reducible apply NeedLen.mk); · first | assumption | rfl)
    | ((with_reducible apply NeedRow.mk); · exact ab_lookR)
    | ((with_reducible apply DrawG.mk (List.replicate 60 false)); · decide +kernel)
    | (with_reducible first | refine NewP.mk (fun id hid => ?_) | refine NilP.mk (fun e he => ?_))
    | (with_reducible first | exact trivial | exact And.intro rfl rfl)
    | ((with_reducible apply PreP.mk); · exact ab_asked)
    | refine Exists.intro _ (PreP.mk (bytesOf_lst _) ?_)
    | refine PreP.mk (lenD_lst _) ?_
    | (with_reducible first | refine PreP.mk ?_ ?_ | refine BothP.mk ?_ ?_)
    | ((with_reducible apply AncOr.anc); · decide +kernel)
    | with_reducible refine AncOr.go ?_)
end Go.Proofs.Ytanknokhbfijdaa
