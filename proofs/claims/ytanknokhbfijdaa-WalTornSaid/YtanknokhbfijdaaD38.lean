/- What functions of the disk, and of the laws over it, do. Conditions: those that each theorem names. -/
import Derived.Test.YtanknokhbfijdaaD37
import Derived.Test.YtanknokhbfijdaaD23
set_option linter.unusedVariables false
set_option linter.unusedSimpArgs false
namespace Go.Proofs.Ytanknokhbfijdaa
open Go.Ab
set_option maxRecDepth 100000
set_option maxHeartbeats 1000000
attribute [local irreducible] Run CallOK DetCall Br PreP BothP AncOr Onw NeedRows NeedMap NeedRow NeedLen NilP NeedIter RoundP EntryP EqP OptP NewP NewSlice NewMade AppTo DrawG anc drawB
theorem mem_sort {l : List (List UInt8)} {s : List UInt8} : s ∈ l.mergeSort leB ↔ s ∈ l := List.mem_mergeSort
/-- Is the file there, and the power on? -/
def thereM (m : Ds) (name : List UInt8) : Bool := !offB m.steps m.off && decide (name ∈ m.files.map (·.name))
theorem a69 (H : Heap) (m : Ds) (name : List UInt8) (hf : m.files.length ≤ 1000) : CallOK Try.prog 69 [listM m, .p (.str name)] H (fun r H' => r = boolD (thereM m name) ∧ H' = H) := by
  unfold listM thereM
  cases ho : offB m.steps m.off with
  | true =>
    refine (CallOK.args (c69 H [] name (by simp)) (fun M env vs hr => ?_)).mono (fun r H' hr => ?_)
    · obtain ⟨v1, vs1, rfl, h1, hr⟩ := hr.cons_inv
      exact .cons h1.nil_lst hr
    · refine ⟨?_, hr.2⟩
      rw [hr.1]; simp
  | false =>
    have hl : (namesM m).length ≤ 1000000 := by unfold namesM; simp; omega
    refine (c69 H (namesM m) name hl).mono (fun r H' hr => ⟨?_, hr.2⟩)
    rw [hr.1]
    refine congrArg boolD ?_
    simp only [Bool.not_false, Bool.true_and]
    rw [decide_eq_decide]
    unfold namesM
    exact mem_sort
/-- What Make does to the disk. -/
def makeM (m : Ds) (name : List UInt8) : Int × Ds :=
  if thereM m name = true ∧ errM m name ≠ 0 then (errM m name, removeM m name) else
    let m1 := if thereM m name = true then removeM m name else m
    if appendR m1 name [] ≠ 0 then (appendR m1 name [], appendM m1 name []) else
      if errM (appendM m1 name []) name ≠ 0 then (errM (appendM m1 name []) name, syncM (appendM m1 name []) name) else (0, syncM (appendM m1 name []) name)
theorem DsOK.remove {m : Ds} (h : DsOK m) (hs : m.steps < 999999999000) (name : List UInt8) : DsOK (removeM m name) ∧ (removeM m name).steps = m.steps + 1 ∧ (removeM m name).files.length ≤ m.files.length ∧ usedM (removeM m name) ≤ usedM m := by
  have h0 := h.s0
  have hst : (removeM m name).steps = m.steps + 1 := (errM_steps m name).2
  have hfu : (removeM m name).files.length ≤ m.files.length ∧ usedM (removeM m name) ≤ usedM m := by
    cases he : errM m name == 0 with
    | false =>
      unfold removeM; rw [he]; exact ⟨Nat.le_refl _, Nat.le_refl _⟩
    | true =>
      have he0 : errM m name = 0 := by simpa using he
      cases hf : findM m name with
      | none =>
        exfalso
        unfold errM at he0; rw [hf] at he0
        revert he0
        cases offB (m.steps + 1) m.off <;> decide
      | some p =>
        have := removeM_used hf he0
        exact ⟨this.2.2.2.2, by omega⟩
  have hu := h.u
  have hf := h.f
  exact ⟨⟨by omega, by omega, by omega, by omega⟩, hst, hfu.1, hfu.2⟩
theorem DsOK.app {m : Ds} (h : DsOK m) (hs : m.steps < 999999999000) (hn : (m.files.map (·.name)).Nodup) (hf : m.files.length ≤ 900) (name b : List UInt8) (hb : usedM m + b.length ≤ 10000000) :
    DsOK (appendM m name b) ∧ (appendM m name b).steps = m.steps + 1 ∧ (appendM m name b).files.length ≤ m.files.length + 1 ∧ usedM (appendM m name b) ≤ usedM m + b.length := by
  have h0 := h.s0
  have hfi := appM_fields m name b
  have hfu : (appendM m name b).files.length ≤ m.files.length + 1 ∧ usedM (appendM m name b) ≤ usedM m + b.length := by
    by_cases hR : appendR m name b = 0
    · have := usedM_app hn name b hR
      exact ⟨this.2, by omega⟩
    · have := appM_not hR
      exact ⟨by rw [this]; omega, by unfold usedM; rw [this]; omega⟩
  exact ⟨⟨by omega, by omega, by omega, by omega⟩, hfi.1, hfu.1, hfu.2⟩
theorem DsOK.sync {m : Ds} (h : DsOK m) (hs : m.steps < 999999999000) (name : List UInt8) : DsOK (syncM m name) ∧ (syncM m name).steps = m.steps + 1 ∧ (syncM m name).files.length = m.files.length ∧ usedM (syncM m name) = usedM m := by
  have h0 := h.s0
  have hst : (syncM m name).steps = m.steps + 1 := (errM_steps m name).1
  have hfu : (syncM m name).files.length = m.files.length ∧ usedM (syncM m name) = usedM m := by
    unfold syncM
    cases errM m name == 0 with
    | false => exact ⟨rfl, rfl⟩
    | true =>
      refine ⟨by simp, ?_⟩
      simp only [cond_true, usedM, List.map_map]
      refine congrArg List.sum (List.map_congr_left fun p _ => ?_)
      simp only [Function.comp]
      split <;> rfl
  have hu := h.u
  have hf := h.f
  exact ⟨⟨by omega, by omega, by omega, by omega⟩, hst, hfu.1, hfu.2⟩
theorem a43 {H : Heap} {d : Nat} {m : Ds} {ids : List Nat} (h : DiskIs H d m ids) (ho : DsOK m) (hs : m.steps < 999999998000) (hf : m.files.length ≤ 800) (name : List UInt8) (hname : name.length ≤ 1000) :
    CallOK Try.prog 43 [.ptr d 0 0, .p (.str name)] H (fun r H' => ∃ ids', DiskIs H' d (makeM m name).2 ids' ∧ Goes H ids H' ids' ∧
      (((makeM m name).1 = 0 ∧ ∃ l, r = .tup [.ptr l 0 0, i64 0] ∧ nth H' l = some (logRow d name 0 false) ∧ H.length ≤ l ∧ l ∉ ids') ∨ ((makeM m name).1 ≠ 0 ∧ r = .tup [nilPtr, i64 (makeM m name).1]))) := by
  refine CallOK.of_spec ?_
  have hl0 := h.lt
  refine Ab.Spec.walk hm Try.func43 (by kernel_rfl) 200 ?_
  repeat' (first
    | ((with_reducible apply Onw.mk); conv => whnf)
    | (with_reducible first | apply Br.tt | apply Br.ff | apply Br.no)
    | ((with_reducible apply Br.t); · assumption)
    | ((with_reducible apply Br.f); · assumption)
    | ((with_reducible apply Br.dt); · exact ab_known)
    | ((with_reducible apply Br.df); · exact ab_known)
    | (with_reducible first | refine Br.dec (fun hc => ?_) (fun hc => ?_) | refine Br.mk (fun hc => ?_) (fun hc => ?_))
    | ((with_reducible first | apply NeedRows.mk | apply NeedMap.mk | apply NeedIter.mk); · exact ab_look)
    | ((with_reducible apply NeedLen.mk); · first | assumption | rfl)
    | ((with_reducible apply NeedRow.mk); · exact ab_lookR)
    | ((with_reducible apply DrawG.mk (List.replicate 60 false)); · decide +kernel)
    | (with_reducible first | refine NewP.mk (fun id hid => ?_) | refine NilP.mk (fun e he => ?_))
    | (with_reducible first | exact trivial | exact And.intro rfl rfl)
    | ((with_reducible apply PreP.mk); · exact ab_asked)
    | refine Exists.intro _ (PreP.mk (bytesOf_lst _) ?_)
    | refine PreP.mk (lenD_lst _) ?_
    | (with_reducible first | refine PreP.mk ?_ ?_ | refine BothP.mk ?_ ?_)
    | ((with_reducible apply AncOr.anc); · decide +kernel)
    | with_reducible refine AncOr.go ?_)
  have htmp := h.tmp (.rows [List.map D.p (List.map constP0 #[Value.pointer none, Value.string { data := #[] }].toList)]) (.rows [[.ptr d 0 0, .p (.str name)]]) hid
  have hrow0 : nth (setN (H ++ [.rows [List.map D.p (List.map constP0 #[Value.pointer none, Value.string { data := #[] }].toList)]]) id (.rows [[.ptr d 0 0, .p (.str name)]])) id = some (.rows [[.ptr d 0 0, .p (.str name)]]) := nth_setN_same (nth_new hid)
  change CallOK Try.prog 23 [.ptr d 0 0] (setN (H ++ [.rows [List.map D.p (List.map constP0 #[Value.pointer none, Value.string { data := #[] }].toList)]]) id (.rows [[.ptr d 0 0, .p (.str name)]])) _
  generalize setN (H ++ [.rows [List.map D.p (List.map constP0 #[Value.pointer none, Value.string { data := #[] }].toList)]]) id (.rows [[.ptr d 0 0, .p (.str name)]]) = H0 at htmp hrow0 ⊢
  obtain ⟨hd0, hg0⟩ := htmp
  have hout0 : id ∉ ids := fun e => by have := hl0 id e; omega
  refine CallOK.go (a23 hd0 ho) (fun r H1 hr => ?_)
  obtain ⟨rfl, rfl⟩ := hr
  repeat' (first
    | ((with_reducible apply Onw.mk); conv => whnf)
    | (with_reducible first | apply Br.tt | apply Br.ff | apply Br.no)
    | ((with_reducible apply Br.t); · assumption)
    | ((with_reducible apply Br.f); · assumption)
    | ((with_reducible apply Br.dt); · exact ab_known)
    | ((with_reducible apply Br.df); · exact ab_known)
    | (with_reducible first | refine Br.dec (fun hc => ?_) (fun hc => ?_) | refine Br.mk (fun hc => ?_) (fun hc => ?_))
    | ((with_reducible first | apply NeedRows.mk | apply NeedMap.mk | apply NeedIter.mk); · exact ab_look)
    | ((with_reducible apply NeedLen.mk); · first | assumption | rfl)
    | ((with_reducible apply NeedRow.mk); · exact ab_lookR)
    | ((with_reducible apply DrawG.mk (List.replicate 60 false)); · decide +kernel)
    | (with_reducible first | refine NewP.mk (fun id hid => ?_) | refine NilP.mk (fun e he => ?_))
    | (with_reducible first | exact trivial | exact And.intro rfl rfl)
    | ((with_reducible apply PreP.mk); · exact ab_asked)
    | refine Exists.intro _ (PreP.mk (bytesOf_lst _) ?_)
    | refine PreP.mk (lenD_lst _) ?_
    | (with_reducible first | refine PreP.mk ?_ ?_ | refine BothP.mk ?_ ?_)
    | ((with_reducible apply AncOr.anc); · decide +kernel)
    | with_reducible refine AncOr.go ?_)
  refine CallOK.go (a69 _ m name (by omega)) (fun r H1 hr => ?_)
  obtain ⟨rfl, rfl⟩ := hr
  have hrm := ho.remove (by omega) name
  obtain ⟨m1, hm1⟩ : ∃ m1, m1 = if thereM m name = true then removeM m name else m := ⟨_, rfl⟩
  have hm1ok : DsOK m1 ∧ m1.steps ≤ m.steps + 1 ∧ m1.files.length ≤ 800 ∧ usedM m1 ≤ usedM m := by
    rw [hm1]; split
    · exact ⟨hrm.1, by omega, by omega, hrm.2.2.2⟩
    · exact ⟨ho, by omega, hf, Nat.le_refl _⟩
  have hu := ho.u
  rcases Classical.em (thereM m name = true ∧ errM m name ≠ 0) with hbad | hbad
  · have hO : makeM m name = (errM m name, removeM m name) := by unfold makeM; rw [if_pos hbad]
    have hth := hbad.1
    have hne := hbad.2
    rw [hO]
    repeat' (first
      | ((with_reducible apply Onw.mk); conv => whnf)
      | (with_reducible first | apply Br.tt | apply Br.ff | apply Br.no)
      | ((with_reducible apply Br.t); · assumption)
      | ((with_reducible apply Br.f); · assumption)
      | ((with_reducible apply Br.dt); · exact ab_known)
      | ((with_reducible apply Br.df); · exact ab_known)
      | (with_reducible first | refine Br.dec (fun hc => ?_) (fun hc => ?_) | refine Br.mk (fun hc => ?_) (fun hc => ?_))
      | ((with_reducible first | apply NeedRows.mk | apply NeedMap.mk | apply NeedIter.mk); · exact ab_look)
      | ((with_reducible apply NeedLen.mk); · first | assumption | rfl)
      | ((with_reducible apply NeedRow.mk); · exact ab_lookR)
      | ((with_reducible apply DrawG.mk (List.replicate 60 false)); · decide +kernel)
      | (with_reducible first | refine NewP.mk (fun id hid => ?_) | refine NilP.mk (fun e he => ?_))
      | (with_reducible first | exact trivial | exact And.intro rfl rfl)
      | ((with_reducible apply PreP.mk); · exact ab_asked)
      | refine Exists.intro _ (PreP.mk (bytesOf_lst _) ?_)
      | refine PreP.mk (lenD_lst _) ?_
      | (with_reducible first | refine PreP.mk ?_ ?_ | refine BothP.mk ?_ ?_)
      | ((with_reducible apply AncOr.anc); · decide +kernel)
      | with_reducible refine AncOr.go ?_)
    refine CallOK.go (a21 hd0 ho name) (fun r H2 hr => ?_)
    obtain ⟨rfl, ids2, hd2, hg2⟩ := hr
    repeat' (first
      | ((with_reducible apply Onw.mk); conv => whnf)
      | (with_reducible first | apply Br.tt | apply Br.ff | apply Br.no)
      | ((with_reducible apply Br.t); · assumption)
      | ((with_reducible apply Br.f); · assumption)
      | ((with_reducible apply Br.dt); · exact ab_known)
      | ((with_reducible apply Br.df); · exact ab_known)
      | (with_reducible first | refine Br.dec (fun hc => ?_) (fun hc => ?_) | refine Br.mk (fun hc => ?_) (fun hc => ?_))
      | ((with_reducible first | apply NeedRows.mk | apply NeedMap.mk | apply NeedIter.mk); · exact ab_look)
      | ((with_reducible apply NeedLen.mk); · first | assumption | rfl)
      | ((with_reducible apply NeedRow.mk); · exact ab_lookR)
      | ((with_reducible apply DrawG.mk (List.replicate 60 false)); · decide +kernel)
      | (with_reducible first | refine NewP.mk (fun id hid => ?_) | refine NilP.mk (fun e he => ?_))
      | (with_reducible first | exact trivial | exact And.intro rfl rfl)
      | ((with_reducible apply PreP.mk); · exact ab_asked)
      | refine Exists.intro _ (PreP.mk (bytesOf_lst _) ?_)
      | refine PreP.mk (lenD_lst _) ?_
      | (with_reducible first | refine PreP.mk ?_ ?_ | refine BothP.mk ?_ ?_)
      | ((with_reducible apply AncOr.anc); · decide +kernel)
      | with_reducible refine AncOr.go ?_)
    exact ⟨ids2, hd2, hg0.trans hg2, .inr ⟨hne, rfl⟩⟩
  have hO : makeM m name = (if appendR m1 name [] ≠ 0 then (appendR m1 name [], appendM m1 name []) else
      if errM (appendM m1 name []) name ≠ 0 then (errM (appendM m1 name []) name, syncM (appendM m1 name []) name) else (0, syncM (appendM m1 name []) name)) := by unfold makeM; rw [if_neg hbad, hm1]
  rw [hO]
  rcases hth : thereM m name with _ | _
  · have e1 : m1 = m := by rw [hm1, hth]; rfl
    rw [e1] at hm1ok ⊢
    rcases Classical.em (appendR m name [] = 0) with hA | hA
    rotate_left
    · rw [if_pos hA]
      repeat' (first
        | ((with_reducible apply Onw.mk); conv => whnf)
        | (with_reducible first | apply Br.tt | apply Br.ff | apply Br.no)
        | ((with_reducible apply Br.t); · assumption)
        | ((with_reducible apply Br.f); · assumption)
        | ((with_reducible apply Br.dt); · exact ab_known)
        | ((with_reducible apply Br.df); · exact ab_known)
        | (with_reducible first | refine Br.dec (fun hc => ?_) (fun hc => ?_) | refine Br.mk (fun hc => ?_) (fun hc => ?_))
        | ((with_reducible first | apply NeedRows.mk | apply NeedMap.mk | apply NeedIter.mk); · exact ab_look)
        | ((with_reducible apply NeedLen.mk); · first | assumption | rfl)
        | ((with_reducible apply NeedRow.mk); · exact ab_lookR)
        | ((with_reducible apply DrawG.mk (List.replicate 60 false)); · decide +kernel)
        | (with_reducible first | refine NewP.mk (fun id hid => ?_) | refine NilP.mk (fun e he => ?_))
        | (with_reducible first | exact trivial | exact And.intro rfl rfl)
        | ((with_reducible apply PreP.mk); · exact ab_asked)
        | refine Exists.intro _ (PreP.mk (bytesOf_lst _) ?_)
        | refine PreP.mk (lenD_lst _) ?_
        | (with_reducible first | refine PreP.mk ?_ ?_ | refine BothP.mk ?_ ?_)
        | ((with_reducible apply AncOr.anc); · decide +kernel)
        | with_reducible refine AncOr.go ?_)
      refine CallOK.go (a16nil hd0 hm1ok.1 name hname) (fun r H3 hr => ?_)
      obtain ⟨rfl, ids3, hd3, hg3⟩ := hr
      repeat' (first
        | ((with_reducible apply Onw.mk); conv => whnf)
        | (with_reducible first | apply Br.tt | apply Br.ff | apply Br.no)
        | ((with_reducible apply Br.t); · assumption)
        | ((with_reducible apply Br.f); · assumption)
        | ((with_reducible apply Br.dt); · exact ab_known)
        | ((with_reducible apply Br.df); · exact ab_known)
        | (with_reducible first | refine Br.dec (fun hc => ?_) (fun hc => ?_) | refine Br.mk (fun hc => ?_) (fun hc => ?_))
        | ((with_reducible first | apply NeedRows.mk | apply NeedMap.mk | apply NeedIter.mk); · exact ab_look)
        | ((with_reducible apply NeedLen.mk); · first | assumption | rfl)
        | ((with_reducible apply NeedRow.mk); · exact ab_lookR)
        | ((with_reducible apply DrawG.mk (List.replicate 60 false)); · decide +kernel)
        | (with_reducible first | refine NewP.mk (fun id hid => ?_) | refine NilP.mk (fun e he => ?_))
        | (with_reducible first | exact trivial | exact And.intro rfl rfl)
        | ((with_reducible apply PreP.mk); · exact ab_asked)
        | refine Exists.intro _ (PreP.mk (bytesOf_lst _) ?_)
        | refine PreP.mk (lenD_lst _) ?_
        | (with_reducible first | refine PreP.mk ?_ ?_ | refine BothP.mk ?_ ?_)
        | ((with_reducible apply AncOr.anc); · decide +kernel)
        | with_reducible refine AncOr.go ?_)
      exact ⟨ids3, hd3, hg0.trans hg3, .inr ⟨hA, rfl⟩⟩
    rw [if_neg (fun h => h hA)]
    repeat' (first
      | ((with_reducible apply Onw.mk); conv => whnf)
      | (with_reducible first | apply Br.tt | apply Br.ff | apply Br.no)
      | ((with_reducible apply Br.t); · assumption)
      | ((with_reducible apply Br.f); · assumption)
      | ((with_reducible apply Br.dt); · exact ab_known)
      | ((with_reducible apply Br.df); · exact ab_known)
      | (with_reducible first | refine Br.dec (fun hc => ?_) (fun hc => ?_) | refine Br.mk (fun hc => ?_) (fun hc => ?_))
      | ((with_reducible first | apply NeedRows.mk | apply NeedMap.mk | apply NeedIter.mk); · exact ab_look)
      | ((with_reducible apply NeedLen.mk); · first | assumption | rfl)
      | ((with_reducible apply NeedRow.mk); · exact ab_lookR)
      | ((with_reducible apply DrawG.mk (List.replicate 60 false)); · decide +kernel)
      | (with_reducible first | refine NewP.mk (fun id hid => ?_) | refine NilP.mk (fun e he => ?_))
      | (with_reducible first | exact trivial | exact And.intro rfl rfl)
      | ((with_reducible apply PreP.mk); · exact ab_asked)
      | refine Exists.intro _ (PreP.mk (bytesOf_lst _) ?_)
      | refine PreP.mk (lenD_lst _) ?_
      | (with_reducible first | refine PreP.mk ?_ ?_ | refine BothP.mk ?_ ?_)
      | ((with_reducible apply AncOr.anc); · decide +kernel)
      | with_reducible refine AncOr.go ?_)
    refine CallOK.go (a16nil hd0 hm1ok.1 name hname) (fun r H3 hr => ?_)
    obtain ⟨rfl, ids3, hd3, hg3⟩ := hr
    have hrow3 := hg3.out id _ hout0 hrow0
    have hout3 : id ∉ ids3 := hg3.apart (c := [id]) (fun j hj => by simp at hj; subst hj; exact hout0) (fun j hj => by simp at hj; subst hj; exact nth_lt hrow0) id (by simp)
    have hok3 := hm1ok.1.app (by omega) hd0.names (by omega) name [] (by simp; omega)
    repeat' (first
      | ((with_reducible apply Onw.mk); conv => whnf)
      | (with_reducible first | apply Br.tt | apply Br.ff | apply Br.no)
      | ((with_reducible apply Br.t); · assumption)
      | ((with_reducible apply Br.f); · assumption)
      | ((with_reducible apply Br.dt); · exact ab_known)
      | ((with_reducible apply Br.df); · exact ab_known)
      | (with_reducible first | refine Br.dec (fun hc => ?_) (fun hc => ?_) | refine Br.mk (fun hc => ?_) (fun hc => ?_))
      | ((with_reducible first | apply NeedRows.mk | apply NeedMap.mk | apply NeedIter.mk); · exact ab_look)
      | ((with_reducible apply NeedLen.mk); · first | assumption | rfl)
      | ((with_reducible apply NeedRow.mk); · exact ab_lookR)
      | ((with_reducible apply DrawG.mk (List.replicate 60 false)); · decide +kernel)
      | (with_reducible first | refine NewP.mk (fun id hid => ?_) | refine NilP.mk (fun e he => ?_))
      | (with_reducible first | exact trivial | exact And.intro rfl rfl)
      | ((with_reducible apply PreP.mk); · exact ab_asked)
      | refine Exists.intro _ (PreP.mk (bytesOf_lst _) ?_)
      | refine PreP.mk (lenD_lst _) ?_
      | (with_reducible first | refine PreP.mk ?_ ?_ | refine BothP.mk ?_ ?_)
      | ((with_reducible apply AncOr.anc); · decide +kernel)
      | with_reducible refine AncOr.go ?_)
    refine CallOK.go (a17 hd3 hok3.1 name) (fun r H4 hr => ?_)
    obtain ⟨rfl, ids4, hd4, hg4⟩ := hr
    have hrow4 := hg4.out id _ hout3 hrow3
    have hgl := hg0.trans (hg3.trans hg4)
    rcases Classical.em (errM (appendM m name []) name = 0) with hB | hB
    rotate_left
    · rw [if_pos hB]
      repeat' (first
        | ((with_reducible apply Onw.mk); conv => whnf)
        | (with_reducible first | apply Br.tt | apply Br.ff | apply Br.no)
        | ((with_reducible apply Br.t); · assumption)
        | ((with_reducible apply Br.f); · assumption)
        | ((with_reducible apply Br.dt); · exact ab_known)
        | ((with_reducible apply Br.df); · exact ab_known)
        | (with_reducible first | refine Br.dec (fun hc => ?_) (fun hc => ?_) | refine Br.mk (fun hc => ?_) (fun hc => ?_))
        | ((with_reducible first | apply NeedRows.mk | apply NeedMap.mk | apply NeedIter.mk); · exact ab_look)
        | ((with_reducible apply NeedLen.mk); · first | assumption | rfl)
        | ((with_reducible apply NeedRow.mk); · exact ab_lookR)
        | ((with_reducible apply DrawG.mk (List.replicate 60 false)); · decide +kernel)
        | (with_reducible first | refine NewP.mk (fun id hid => ?_) | refine NilP.mk (fun e he => ?_))
        | (with_reducible first | exact trivial | exact And.intro rfl rfl)
        | ((with_reducible apply PreP.mk); · exact ab_asked)
        | refine Exists.intro _ (PreP.mk (bytesOf_lst _) ?_)
        | refine PreP.mk (lenD_lst _) ?_
        | (with_reducible first | refine PreP.mk ?_ ?_ | refine BothP.mk ?_ ?_)
        | ((with_reducible apply AncOr.anc); · decide +kernel)
        | with_reducible refine AncOr.go ?_)
      exact ⟨ids4, hd4, hgl, .inr ⟨hB, rfl⟩⟩
    rw [if_neg (fun h => h hB)]
    repeat' (first
      | ((with_reducible apply Onw.mk); conv => whnf)
      | (with_reducible first | apply Br.tt | apply Br.ff | apply Br.no)
      | ((with_reducible apply Br.t); · assumption)
      | ((with_reducible apply Br.f); · assumption)
      | ((with_reducible apply Br.dt); · exact ab_known)
      | ((with_reducible apply Br.df); · exact ab_known)
      | (with_reducible first | refine Br.dec (fun hc => ?_) (fun hc => ?_) | refine Br.mk (fun hc => ?_) (fun hc => ?_))
      | ((with_reducible first | apply NeedRows.mk | apply NeedMap.mk | apply NeedIter.mk); · exact ab_look)
      | ((with_reducible apply NeedLen.mk); · first | assumption | rfl)
      | ((with_reducible apply NeedRow.mk); · exact ab_lookR)
      | ((with_reducible apply DrawG.mk (List.replicate 60 false)); · decide +kernel)
      | (with_reducible first | refine NewP.mk (fun id hid => ?_) | refine NilP.mk (fun e he => ?_))
      | (with_reducible first | exact trivial | exact And.intro rfl rfl)
      | ((with_reducible apply PreP.mk); · exact ab_asked)
      | refine Exists.intro _ (PreP.mk (bytesOf_lst _) ?_)
      | refine PreP.mk (lenD_lst _) ?_
      | (with_reducible first | refine PreP.mk ?_ ?_ | refine BothP.mk ?_ ?_)
      | ((with_reducible apply AncOr.anc); · decide +kernel)
      | with_reducible refine AncOr.go ?_)
    exact ⟨ids4, hd4.move (Goes.app H4 _ []) (fun j _ hj => by cases hj), hgl.trans (Goes.app H4 _ ids4), .inl ⟨rfl, id, rfl, nth_new hid, by have := hgl.len; omega, fun e => by have := hd4.lt id e; omega⟩⟩
  · have e1 : m1 = removeM m name := by rw [hm1, hth]; rfl
    have he0 : errM m name = 0 := Classical.byContradiction fun h => hbad ⟨hth, h⟩
    repeat' (first
      | ((with_reducible apply Onw.mk); conv => whnf)
      | (with_reducible first | apply Br.tt | apply Br.ff | apply Br.no)
      | ((with_reducible apply Br.t); · assumption)
      | ((with_reducible apply Br.f); · assumption)
      | ((with_reducible apply Br.dt); · exact ab_known)
      | ((with_reducible apply Br.df); · exact ab_known)
      | (with_reducible first | refine Br.dec (fun hc => ?_) (fun hc => ?_) | refine Br.mk (fun hc => ?_) (fun hc => ?_))
      | ((with_reducible first | apply NeedRows.mk | apply NeedMap.mk | apply NeedIter.mk); · exact ab_look)
      | ((with_reducible apply NeedLen.mk); · first | assumption | rfl)
      | ((with_reducible apply NeedRow.mk); · exact ab_lookR)
      | ((with_reducible apply DrawG.mk (List.replicate 60 false)); · decide +kernel)
      | (with_reducible first | refine NewP.mk (fun id hid => ?_) | refine NilP.mk (fun e he => ?_))
      | (with_reducible first | exact trivial | exact And.intro rfl rfl)
      | ((with_reducible apply PreP.mk); · exact ab_asked)
      | refine Exists.intro _ (PreP.mk (bytesOf_lst _) ?_)
      | refine PreP.mk (lenD_lst _) ?_
      | (with_reducible first | refine PreP.mk ?_ ?_ | refine BothP.mk ?_ ?_)
      | ((with_reducible apply AncOr.anc); · decide +kernel)
      | with_reducible refine AncOr.go ?_)
    refine CallOK.go (a21 hd0 ho name) (fun r H2 hr => ?_)
    obtain ⟨rfl, ids2, hd2, hg2⟩ := hr
    have hrow2 := hg2.out id _ hout0 hrow0
    have hout2 : id ∉ ids2 := hg2.apart (c := [id]) (fun j hj => by simp at hj; subst hj; exact hout0) (fun j hj => by simp at hj; subst hj; exact nth_lt hrow0) id (by simp)
    have hg02 := hg0.trans hg2
    rw [← e1] at hd2
    rcases Classical.em (appendR m1 name [] = 0) with hA | hA
    rotate_left
    · rw [if_pos hA]
      repeat' (first
        | ((with_reducible apply Onw.mk); conv => whnf)
        | (with_reducible first | apply Br.tt | apply Br.ff | apply Br.no)
        | ((with_reducible apply Br.t); · assumption)
        | ((with_reducible apply Br.f); · assumption)
        | ((with_reducible apply Br.dt); · exact ab_known)
        | ((with_reducible apply Br.df); · exact ab_known)
        | (with_reducible first | refine Br.dec (fun hc => ?_) (fun hc => ?_) | refine Br.mk (fun hc => ?_) (fun hc => ?_))
        | ((with_reducible first | apply NeedRows.mk | apply NeedMap.mk | apply NeedIter.mk); · exact ab_look)
        | ((with_reducible apply NeedLen.mk); · first | assumption | rfl)
        | ((with_reducible apply NeedRow.mk); · exact ab_lookR)
        | ((with_reducible apply DrawG.mk (List.replicate 60 false)); · decide +kernel)
        | (with_reducible first | refine NewP.mk (fun id hid => ?_) | refine NilP.mk (fun e he => ?_))
        | (with_reducible first | exact trivial | exact And.intro rfl rfl)
        | ((with_reducible apply PreP.mk); · exact ab_asked)
        | refine Exists.intro _ (PreP.mk (bytesOf_lst _) ?_)
        | refine PreP.mk (lenD_lst _) ?_
        | (with_reducible first | refine PreP.mk ?_ ?_ | refine BothP.mk ?_ ?_)
        | ((with_reducible apply AncOr.anc); · decide +kernel)
        | with_reducible refine AncOr.go ?_)
      refine CallOK.go (a16nil hd2 hm1ok.1 name hname) (fun r H3 hr => ?_)
      obtain ⟨rfl, ids3, hd3, hg3⟩ := hr
      repeat' (first
        | ((with_reducible apply Onw.mk); conv => whnf)
        | (with_reducible first | apply Br.tt | apply Br.ff | apply Br.no)
        | ((with_reducible apply Br.t); · assumption)
        | ((with_reducible apply Br.f); · assumption)
        | ((with_reducible apply Br.dt); · exact ab_known)
        | ((with_reducible apply Br.df); · exact ab_known)
        | (with_reducible first | refine Br.dec (fun hc => ?_) (fun hc => ?_) | refine Br.mk (fun hc => ?_) (fun hc => ?_))
        | ((with_reducible first | apply NeedRows.mk | apply NeedMap.mk | apply NeedIter.mk); · exact ab_look)
        | ((with_reducible apply NeedLen.mk); · first | assumption | rfl)
        | ((with_reducible apply NeedRow.mk); · exact ab_lookR)
        | ((with_reducible apply DrawG.mk (List.replicate 60 false)); · decide +kernel)
        | (with_reducible first | refine NewP.mk (fun id hid => ?_) | refine NilP.mk (fun e he => ?_))
        | (with_reducible first | exact trivial | exact And.intro rfl rfl)
        | ((with_reducible apply PreP.mk); · exact ab_asked)
        | refine Exists.intro _ (PreP.mk (bytesOf_lst _) ?_)
        | refine PreP.mk (lenD_lst _) ?_
        | (with_reducible first | refine PreP.mk ?_ ?_ | refine BothP.mk ?_ ?_)
        | ((with_reducible apply AncOr.anc); · decide +kernel)
        | with_reducible refine AncOr.go ?_)
      exact ⟨ids3, hd3, hg02.trans hg3, .inr ⟨hA, rfl⟩⟩
    rw [if_neg (fun h => h hA)]
    repeat' (first
      | ((with_reducible apply Onw.mk); conv => whnf)
      | (with_reducible first | apply Br.tt | apply Br.ff | apply Br.no)
      | ((with_reducible apply Br.t); · assumption)
      | ((with_reducible apply Br.f); · assumption)
      | ((with_reducible apply Br.dt); · exact ab_known)
      | ((with_reducible apply Br.df); · exact ab_known)
      | (with_reducible first | refine Br.dec (fun hc => ?_) (fun hc => ?_) | refine Br.mk (fun hc => ?_) (fun hc => ?_))
      | ((with_reducible first | apply NeedRows.mk | apply NeedMap.mk | apply NeedIter.mk); · exact ab_look)
      | ((with_reducible apply NeedLen.mk); · first | assumption | rfl)
      | ((with_reducible apply NeedRow.mk); · exact ab_lookR)
      | ((with_reducible apply DrawG.mk (List.replicate 60 false)); · decide +kernel)
      | (with_reducible first | refine NewP.mk (fun id hid => ?_) | refine NilP.mk (fun e he => ?_))
      | (with_reducible first | exact trivial | exact And.intro rfl rfl)
      | ((with_reducible apply PreP.mk); · exact ab_asked)
      | refine Exists.intro _ (PreP.mk (bytesOf_lst _) ?_)
      | refine PreP.mk (lenD_lst _) ?_
      | (with_reducible first | refine PreP.mk ?_ ?_ | refine BothP.mk ?_ ?_)
      | ((with_reducible apply AncOr.anc); · decide +kernel)
      | with_reducible refine AncOr.go ?_)
    refine CallOK.go (a16nil hd2 hm1ok.1 name hname) (fun r H3 hr => ?_)
    obtain ⟨rfl, ids3, hd3, hg3⟩ := hr
    have hrow3 := hg3.out id _ hout2 hrow2
    have hout3 : id ∉ ids3 := hg3.apart (c := [id]) (fun j hj => by simp at hj; subst hj; exact hout2) (fun j hj => by simp at hj; subst hj; exact nth_lt hrow2) id (by simp)
    have hok3 := hm1ok.1.app (by omega) hd2.names (by omega) name [] (by simp; omega)
    repeat' (first
      | ((with_reducible apply Onw.mk); conv => whnf)
      | (with_reducible first | apply Br.tt | apply Br.ff | apply Br.no)
      | ((with_reducible apply Br.t); · assumption)
      | ((with_reducible apply Br.f); · assumption)
      | ((with_reducible apply Br.dt); · exact ab_known)
      | ((with_reducible apply Br.df); · exact ab_known)
      | (with_reducible first | refine Br.dec (fun hc => ?_) (fun hc => ?_) | refine Br.mk (fun hc => ?_) (fun hc => ?_))
      | ((with_reducible first | apply NeedRows.mk | apply NeedMap.mk | apply NeedIter.mk); · exact ab_look)
      | ((with_reducible apply NeedLen.mk); · first | assumption | rfl)
      | ((with_reducible apply NeedRow.mk); · exact ab_lookR)
      | ((with_reducible apply DrawG.mk (List.replicate 60 false)); · decide +kernel)
      | (with_reducible first | refine NewP.mk (fun id hid => ?_) | refine NilP.mk (fun e he => ?_))
      | (with_reducible first | exact trivial | exact And.intro rfl rfl)
      | ((with_reducible apply PreP.mk); · exact ab_asked)
      | refine Exists.intro _ (PreP.mk (bytesOf_lst _) ?_)
      | refine PreP.mk (lenD_lst _) ?_
      | (with_reducible first | refine PreP.mk ?_ ?_ | refine BothP.mk ?_ ?_)
      | ((with_reducible apply AncOr.anc); · decide +kernel)
      | with_reducible refine AncOr.go ?_)
    refine CallOK.go (a17 hd3 hok3.1 name) (fun r H4 hr => ?_)
    obtain ⟨rfl, ids4, hd4, hg4⟩ := hr
    have hrow4 := hg4.out id _ hout3 hrow3
    have hgl := hg02.trans (hg3.trans hg4)
    rcases Classical.em (errM (appendM m1 name []) name = 0) with hB | hB
    rotate_left
    · rw [if_pos hB]
      repeat' (first
        | ((with_reducible apply Onw.mk); conv => whnf)
        | (with_reducible first | apply Br.tt | apply Br.ff | apply Br.no)
        | ((with_reducible apply Br.t); · assumption)
        | ((with_reducible apply Br.f); · assumption)
        | ((with_reducible apply Br.dt); · exact ab_known)
        | ((with_reducible apply Br.df); · exact ab_known)
        | (with_reducible first | refine Br.dec (fun hc => ?_) (fun hc => ?_) | refine Br.mk (fun hc => ?_) (fun hc => ?_))
        | ((with_reducible first | apply NeedRows.mk | apply NeedMap.mk | apply NeedIter.mk); · exact ab_look)
        | ((with_reducible apply NeedLen.mk); · first | assumption | rfl)
        | ((with_reducible apply NeedRow.mk); · exact ab_lookR)
        | ((with_reducible apply DrawG.mk (List.replicate 60 false)); · decide +kernel)
        | (with_reducible first | refine NewP.mk (fun id hid => ?_) | refine NilP.mk (fun e he => ?_))
        | (with_reducible first | exact trivial | exact And.intro rfl rfl)
        | ((with_reducible apply PreP.mk); · exact ab_asked)
        | refine Exists.intro _ (PreP.mk (bytesOf_lst _) ?_)
        | refine PreP.mk (lenD_lst _) ?_
        | (with_reducible first | refine PreP.mk ?_ ?_ | refine BothP.mk ?_ ?_)
        | ((with_reducible apply AncOr.anc); · decide +kernel)
        | with_reducible refine AncOr.go ?_)
      exact ⟨ids4, hd4, hgl, .inr ⟨hB, rfl⟩⟩
    rw [if_neg (fun h => h hB)]
    repeat' (first
      | ((with_reducible apply Onw.mk); conv => whnf)
      | (with_reducible first | apply Br.tt | apply Br.ff | apply Br.no)
      | ((with_reducible apply Br.t); · assumption)
      | ((with_reducible apply Br.f); · assumption)
      | ((with_reducible apply Br.dt); · exact ab_known)
      | ((with_reducible apply Br.df); · exact ab_known)
      | (with_reducible first | refine Br.dec (fun hc => ?_) (fun hc => ?_) | refine Br.mk (fun hc => ?_) (fun hc => ?_))
      | ((with_reducible first | apply NeedRows.mk | apply NeedMap.mk | apply NeedIter.mk); · exact ab_look)
      | ((with_reducible apply NeedLen.mk); · first | assumption | rfl)
      | ((with_reducible apply NeedRow.mk); · exact ab_lookR)
      | ((with_reducible apply DrawG.mk (List.replicate 60 false)); · decide +kernel)
      | (with_reducible first | refine NewP.mk (fun id hid => ?_) | refine NilP.mk (fun e he => ?_))
      | (with_reducible first | exact trivial | exact And.intro rfl rfl)
      | ((with_reducible apply PreP.mk); · exact ab_asked)
      | refine Exists.intro _ (PreP.mk (bytesOf_lst _) ?_)
      | refine PreP.mk (lenD_lst _) ?_
      | (with_reducible first | refine PreP.mk ?_ ?_ | refine BothP.mk ?_ ?_)
      | ((with_reducible apply AncOr.anc); · decide +kernel)
      | with_reducible refine AncOr.go ?_)
    exact ⟨ids4, hd4.move (Goes.app H4 _ []) (fun j _ hj => by cases hj), hgl.trans (Goes.app H4 _ ids4), .inl ⟨rfl, id, rfl, nth_new hid, by have := hgl.len; omega, fun e => by have := hd4.lt id e; omega⟩⟩
end Go.Proofs.Ytanknokhbfijdaa
