/- What functions of the disk, and of the laws over it, do. Conditions: those that each theorem names. -/
import Derived.Test.YtanknokhbfijdaaD77
set_option linter.unusedVariables false
set_option linter.unusedSimpArgs false
namespace Go.Proofs.Ytanknokhbfijdaa
open Go.Ab
set_option maxRecDepth 100000
set_option maxHeartbeats 1000000
attribute [local irreducible] Run CallOK DetCall Br PreP BothP AncOr Onw NeedRows NeedMap NeedRow NeedLen NilP NeedIter RoundP EntryP EqP OptP NewP NewSlice NewMade AppTo DrawG anc drawB
theorem goes_drop {H : Heap} {r fid : Nat} {fs : List RFl} {q s p : Int} {o : Bool} (h : RAt H r fid fs q s p o) {i : Nat} {f : RFl} (hf : fs[i]? = some f) :
    Goes H (idsR r fid fs) (dropHeap H r fs i f q s p o) (idsR r (H.length + 3) (fs.eraseIdx i)) := by
  refine ⟨fun j X hj hX => nth_setN_ne (fun e => hj (by rw [← e]; exact List.mem_cons_self ..)) (nth_app hX), fun j hj => ?_, by unfold dropHeap; rw [setN_length]; simp⟩
  unfold idsR at hj ⊢
  rcases List.mem_cons.1 hj with e | e
  · exact .inl (by rw [e]; exact List.mem_cons_self ..)
  rcases List.mem_cons.1 e with e | e
  · exact .inr (by omega)
  · exact .inl (List.mem_cons_of_mem _ (List.mem_cons_of_mem _ (((List.eraseIdx_sublist fs i).map _).subset e)))
theorem goes_ins {H : Heap} {r fid : Nat} {fs : List RFl} {q s p : Int} {o : Bool} (h : RAt H r fid fs q s p o) (name : List UInt8) (xr : List D) {ids' : List Nat} (hi : ∀ j ∈ ids', j ∈ idsR r fid fs ∨ H.length ≤ j) :
    Goes H (idsR r fid fs) (insHeap H r fid fs q s p o name xr) ids' :=
  ⟨fun j X hj hX => nth_setN_ne (fun e => hj (by rw [← e]; exact List.mem_cons_self ..)) (nth_app (nth_setN_ne (fun e => hj (by rw [← e]; exact List.mem_cons_of_mem _ (List.mem_cons_self ..))) (nth_app hX))), hi, by unfold insHeap; rw [setN_length, List.length_append, setN_length]; simp; omega⟩
theorem goes_insNew {H : Heap} {r fid : Nat} {fs : List RFl} {q s p : Int} {o : Bool} (h : RAt H r fid fs q s p o) (name : List UInt8) :
    Goes H (idsR r fid fs) (setN (insHeap H r fid fs q s p o name [.p (.str name), .p .nil, i64 0]) (H.length + 1) (.rows (setN (insRows fs name [.p (.str name), .p .nil, i64 0]) (posN fs name) (setN [.p (.str name), .p .nil, i64 0] 1 (.own (insHeap H r fid fs q s p o name [.p (.str name), .p .nil, i64 0]).length 1 0 0 none)))) ++ [.rows []])
      (idsR r (H.length + 1) (insF fs ⟨name, (insHeap H r fid fs q s p o name [.p (.str name), .p .nil, i64 0]).length, [], 0⟩)) := by
  have hL : (insHeap H r fid fs q s p o name [.p (.str name), .p .nil, i64 0]).length = H.length + 2 := by
    unfold insHeap
    rw [setN_length, List.length_append, setN_length]; simp
  refine ⟨fun j X hj hX => nth_app (nth_setN_ne (by have := nth_lt hX; omega) ((goes_ins h name [.p (.str name), .p .nil, i64 0] (ids' := []) (fun j hj => by cases hj)).out j X hj hX)), fun j hj => ?_, by rw [List.length_append, setN_length, hL]; omega⟩
  unfold idsR at hj ⊢
  rcases List.mem_cons.1 hj with e | e
  · exact .inl (by rw [e]; exact List.mem_cons_self ..)
  rcases List.mem_cons.1 e with e | e
  · exact .inr (by omega)
  · rcases List.mem_cons.1 (((insF_perm fs _).map (·.bid)).mem_iff.1 e) with e | e
    · exact .inr (by rw [e]; simp only []; omega)
    · exact .inl (List.mem_cons_of_mem _ (List.mem_cons_of_mem _ e))
theorem goes_bytes {H : Heap} {r fid : Nat} {fs : List RFl} {q s p : Int} {o : Bool} (h : RAt H r fid fs q s p o) {i : Nat} {f : RFl} (hf : fs[i]? = some f) (b : List UInt8) (k : Nat) :
    Goes H (idsR r fid fs) (setN (setN H f.bid .gone ++ [.rows (b.map byteRowD)]) fid (.rows ((fs.set i ⟨f.name, H.length, b, k⟩).map rowF))) (idsR r fid (fs.set i ⟨f.name, H.length, b, k⟩)) := by
  refine ⟨fun j X hj hX => nth_setN_ne (fun e => hj (by rw [← e]; exact List.mem_cons_of_mem _ (List.mem_cons_self ..))) (nth_app (nth_setN_ne (fun e => hj (by rw [← e]; exact List.mem_cons_of_mem _ (List.mem_cons_of_mem _ (List.mem_map.2 ⟨f, List.mem_of_getElem? hf, rfl⟩)))) hX)), fun j hj => ?_, by rw [setN_length, List.length_append, setN_length]; omega⟩
  unfold idsR at hj ⊢
  rcases List.mem_cons.1 hj with e | e
  · exact .inl (by rw [e]; exact List.mem_cons_self ..)
  rcases List.mem_cons.1 e with e | e
  · exact .inl (by rw [e]; exact List.mem_cons_of_mem _ (List.mem_cons_self ..))
  · obtain ⟨g, hg, rfl⟩ := List.mem_map.1 e
    rcases List.mem_or_eq_of_mem_set hg with e | e
    · exact .inl (List.mem_cons_of_mem _ (List.mem_cons_of_mem _ (List.mem_map.2 ⟨g, e, rfl⟩)))
    · subst e; exact .inr (Nat.le_refl _)
/-- Sync. -/
theorem b28 {H : Heap} {r : Nat} {m : Rf} {ids : List Nat} (h : RIs H r m ids) (ok : RfOK m) (name : List UInt8) :
    CallOK Try.prog 28 [.ptr r 0 0, .p (.str name)] H (fun res H' => res = i64 (rErr m name) ∧ ∃ ids', RIs H' r (rSyncM m name) ids' ∧ Goes H ids H' ids') := by
  obtain ⟨fid, fs, h, hfs, rfl⟩ := h
  have hl : fs.length ≤ 1000 := by rw [← len_eq hfs]; exact ok.n
  have hu : usedR fs ≤ 10000000 := by rw [← used_eq hfs]; exact ok.u
  have hnd : (fs.map (·.name)).Nodup := by rw [← name_eq hfs]; exact ok.nd
  refine CallOK.of_spec ?_
  refine Ab.Spec.walk hm Try.func28 (by kernel_rfl) 300 ?_
  repeat' (first
    | ((with_reducible apply Onw.mk); conv => whnf)
    | (with_reducible first | apply Br.tt | apply Br.ff | apply Br.no)
    | ((with_reducible apply Br.t); · assumption)
    | ((with_reducible apply Br.f); · assumption)
    | ((with_reducible apply Br.dt); · exact ab_known)
    | ((with_reducible apply Br.df); · exact ab_known)
    | (with_reducible first | refine Br.dec (fun hc => ?_) (fun hc => ?_) | refine Br.mk (fun hc => ?_) (fun hc => ?_))
    | ((with_reducible first | apply NeedRows.mk | apply NeedMap.mk | apply NeedIter.mk); · exact ab_look)
    | ((with_reducible apply NeedLen.mk); · first | assumption | rfl)
    | ((with_reducible apply NeedRow.mk); · exact ab_lookR)
    | ((with_reducible apply DrawG.mk (List.replicate 60 false)); · decide +kernel)
    | (with_reducible first | refine NewP.mk (fun id hid => ?_) | refine NilP.mk (fun e he => ?_))
    | (with_reducible first | exact trivial | exact And.intro rfl rfl)
    | ((with_reducible apply PreP.mk); · exact ab_asked)
    | refine Exists.intro _ (PreP.mk (bytesOf_lst _) ?_)
    | refine PreP.mk (lenD_lst _) ?_
    | (with_reducible first | refine PreP.mk ?_ ?_ | refine BothP.mk ?_ ?_)
    | ((with_reducible apply AncOr.anc); · decide +kernel)
    | with_reducible refine AncOr.go ?_)
  refine CallOK.go (c53 h ok) (fun r2 H1 hr => ?_)
  obtain ⟨rfl, he1⟩ := hr
  have h1 := h.setRow (rStep m).steps (rStep m).power (rStep m).off
  have g1 : Goes H (idsR r fid fs) (setN H r (rRow fid fs.length m.quota (rStep m).steps (rStep m).power (rStep m).off)) (idsR r fid fs) := Goes.set (List.mem_cons_self ..)
  rw [← he1] at h1 g1
  clear he1
  have hm0 : RIs H1 r (rStep m) (idsR r fid fs) := ⟨fid, fs, h1, hfs, rfl⟩
  cases hoff : (rStep m).off with
  | true =>
    repeat' (first
      | ((with_reducible apply Onw.mk); conv => whnf)
      | (with_reducible first | apply Br.tt | apply Br.ff | apply Br.no)
      | ((with_reducible apply Br.t); · assumption)
      | ((with_reducible apply Br.f); · assumption)
      | ((with_reducible apply Br.dt); · exact ab_known)
      | ((with_reducible apply Br.df); · exact ab_known)
      | (with_reducible first | refine Br.dec (fun hc => ?_) (fun hc => ?_) | refine Br.mk (fun hc => ?_) (fun hc => ?_))
      | ((with_reducible first | apply NeedRows.mk | apply NeedMap.mk | apply NeedIter.mk); · exact ab_look)
      | ((with_reducible apply NeedLen.mk); · first | assumption | rfl)
      | ((with_reducible apply NeedRow.mk); · exact ab_lookR)
      | ((with_reducible apply DrawG.mk (List.replicate 60 false)); · decide +kernel)
      | (with_reducible first | refine NewP.mk (fun id hid => ?_) | refine NilP.mk (fun e he => ?_))
      | (with_reducible first | exact trivial | exact And.intro rfl rfl)
      | ((with_reducible apply PreP.mk); · exact ab_asked)
      | refine Exists.intro _ (PreP.mk (bytesOf_lst _) ?_)
      | refine PreP.mk (lenD_lst _) ?_
      | (with_reducible first | refine PreP.mk ?_ ?_ | refine BothP.mk ?_ ?_)
      | ((with_reducible apply AncOr.anc); · decide +kernel)
      | with_reducible refine AncOr.go ?_)
    all_goals exact ⟨by unfold rErr; rw [hoff]; rfl, _, (by unfold rSyncM rErr; rw [hoff]; exact hm0), g1⟩
  | false =>
    repeat' (first
      | ((with_reducible apply Onw.mk); conv => whnf)
      | (with_reducible first | apply Br.tt | apply Br.ff | apply Br.no)
      | ((with_reducible apply Br.t); · assumption)
      | ((with_reducible apply Br.f); · assumption)
      | ((with_reducible apply Br.dt); · exact ab_known)
      | ((with_reducible apply Br.df); · exact ab_known)
      | (with_reducible first | refine Br.dec (fun hc => ?_) (fun hc => ?_) | refine Br.mk (fun hc => ?_) (fun hc => ?_))
      | ((with_reducible first | apply NeedRows.mk | apply NeedMap.mk | apply NeedIter.mk); · exact ab_look)
      | ((with_reducible apply NeedLen.mk); · first | assumption | rfl)
      | ((with_reducible apply NeedRow.mk); · exact ab_lookR)
      | ((with_reducible apply DrawG.mk (List.replicate 60 false)); · decide +kernel)
      | (with_reducible first | refine NewP.mk (fun id hid => ?_) | refine NilP.mk (fun e he => ?_))
      | (with_reducible first | exact trivial | exact And.intro rfl rfl)
      | ((with_reducible apply PreP.mk); · exact ab_asked)
      | refine Exists.intro _ (PreP.mk (bytesOf_lst _) ?_)
      | refine PreP.mk (lenD_lst _) ?_
      | (with_reducible first | refine PreP.mk ?_ ?_ | refine BothP.mk ?_ ?_)
      | ((with_reducible apply AncOr.anc); · decide +kernel)
      | with_reducible refine AncOr.go ?_)
    refine CallOK.go (c55 h1 (by omega) name) (fun r3 H2 hr => ?_)
    obtain ⟨rfl, rfl⟩ := hr
    have hh := has_idx hfs name
    unfold atI
    rcases Nat.lt_or_ge (idxN fs name) fs.length with hil | hil
    · rw [decide_eq_true hil] at hh
      rw [if_pos hil]
      obtain ⟨f, hf, hfn⟩ := idx_there hil
      have hnth := rowF_nth hf
      have hrow := h1.row
      have hrows := h1.rows
      unfold rRow at hrow
      have hc : ¬ ((idxN fs name : Int) < 0) := by omega
      have hp0 : (0 : Int) ≤ (idxN fs name : Int) ∧ (idxN fs name : Int) < (fs.length : Int) := by omega
      have hE : rErr m name = 0 := by unfold rErr; rw [hoff, hh]; rfl
      have hM : rSyncM m name = { rStep m with files := modN m.files name fun p => { p with kept := p.bytes.length } } := by unfold rSyncM; rw [hE]; rfl
      repeat' (first
        | ((with_reducible apply Onw.mk); conv => whnf)
        | (with_reducible first | apply Br.tt | apply Br.ff | apply Br.no)
        | ((with_reducible apply Br.t); · assumption)
        | ((with_reducible apply Br.f); · assumption)
        | ((with_reducible apply Br.dt); · exact ab_known)
        | ((with_reducible apply Br.df); · exact ab_known)
        | (with_reducible first | refine Br.dec (fun hc => ?_) (fun hc => ?_) | refine Br.mk (fun hc => ?_) (fun hc => ?_))
        | (refine PreP.mk hp0 ?_)
        | ((with_reducible apply DrawG.mk [false, false, false, false, false, false, false, false, false, false, false, false, false, false, false, false, true]); · decide +kernel)
        | ((with_reducible first | apply NeedRows.mk | apply NeedMap.mk | apply NeedIter.mk); · exact ab_look)
        | ((with_reducible apply NeedLen.mk); · first | assumption | rfl)
        | ((with_reducible apply NeedRow.mk); · exact ab_lookR)
        | ((with_reducible apply DrawG.mk (List.replicate 60 false)); · decide +kernel)
        | (with_reducible first | refine NewP.mk (fun id hid => ?_) | refine NilP.mk (fun e he => ?_))
        | (with_reducible first | exact trivial | exact And.intro rfl rfl)
        | ((with_reducible apply PreP.mk); · exact ab_asked)
        | refine Exists.intro _ (PreP.mk (bytesOf_lst _) ?_)
        | refine PreP.mk (lenD_lst _) ?_
        | (with_reducible first | refine PreP.mk ?_ ?_ | refine BothP.mk ?_ ?_)
        | ((with_reducible apply AncOr.anc); · decide +kernel)
        | with_reducible refine AncOr.go ?_)
      rw [hE, hM]
      have h3 := h1.setKept hf f.bytes.length
      have e3 : setN (fs.map rowF) (0 + (idxN fs name : Int).toNat) [.p (.str f.name), .own f.bid 1 0 f.bytes.length none, i64 (f.bytes.length : Nat)] = (fs.set (idxN fs name) { f with kept := f.bytes.length }).map rowF := by
        rw [Int.toNat_natCast, Nat.zero_add]
        exact map_set_rowF fs (idxN fs name) { f with kept := f.bytes.length }
      rw [← e3] at h3
      refine ⟨rfl, _, ⟨fid, _, h3, ?_, rfl⟩, ?_⟩
      · have h4 := set_pf (f' := { f with kept := f.bytes.length }) hnd hf (fun p => { p with kept := p.bytes.length }) rfl
        rw [hfs] at h4
        exact h4.trans (by rw [hfn])
      · have hb : idsR r fid (fs.set (idxN fs name) { f with kept := f.bytes.length }) = idsR r fid fs := by
          unfold idsR
          congr 2
          rw [List.map_set]
          apply List.ext_getElem?
          intro j
          by_cases e : idxN fs name = j
          · rw [← e, List.getElem?_set_self (by simpa using hil), List.getElem?_map, hf]; rfl
          · rw [List.getElem?_set_ne e]
        rw [hb]
        exact g1.set_new (List.mem_cons_of_mem _ (List.mem_cons_self ..))
    · rw [decide_eq_false (by omega)] at hh
      rw [if_neg (by omega)]
      have hE : rErr m name = 210 := by unfold rErr; rw [hoff, hh]; rfl
      have hM : rSyncM m name = rStep m := by unfold rSyncM; rw [hE]; rfl
      repeat' (first
        | ((with_reducible apply Onw.mk); conv => whnf)
        | (with_reducible first | apply Br.tt | apply Br.ff | apply Br.no)
        | ((with_reducible apply Br.t); · assumption)
        | ((with_reducible apply Br.f); · assumption)
        | ((with_reducible apply Br.dt); · exact ab_known)
        | ((with_reducible apply Br.df); · exact ab_known)
        | (with_reducible first | refine Br.dec (fun hc => ?_) (fun hc => ?_) | refine Br.mk (fun hc => ?_) (fun hc => ?_))
        | ((with_reducible first | apply NeedRows.mk | apply NeedMap.mk | apply NeedIter.mk); · exact ab_look)
        | ((with_reducible apply NeedLen.mk); · first | assumption | rfl)
        | ((with_reducible apply NeedRow.mk); · exact ab_lookR)
        | ((with_reducible apply DrawG.mk (List.replicate 60 false)); · decide +kernel)
        | (with_reducible first | refine NewP.mk (fun id hid => ?_) | refine NilP.mk (fun e he => ?_))
        | (with_reducible first | exact trivial | exact And.intro rfl rfl)
        | ((with_reducible apply PreP.mk); · exact ab_asked)
        | refine Exists.intro _ (PreP.mk (bytesOf_lst _) ?_)
        | refine PreP.mk (lenD_lst _) ?_
        | (with_reducible first | refine PreP.mk ?_ ?_ | refine BothP.mk ?_ ?_)
        | ((with_reducible apply AncOr.anc); · decide +kernel)
        | with_reducible refine AncOr.go ?_)
      rw [hE, hM]
      exact ⟨rfl, _, hm0, g1⟩
/-- Remove. -/
theorem b30 {H : Heap} {r : Nat} {m : Rf} {ids : List Nat} (h : RIs H r m ids) (ok : RfOK m) (name : List UInt8) :
    CallOK Try.prog 30 [.ptr r 0 0, .p (.str name)] H (fun res H' => res = i64 (rErr m name) ∧ ∃ ids', RIs H' r (rRemoveM m name) ids' ∧ Goes H ids H' ids') := by
  obtain ⟨fid, fs, h, hfs, rfl⟩ := h
  have hl : fs.length ≤ 1000 := by rw [← len_eq hfs]; exact ok.n
  have hu : usedR fs ≤ 10000000 := by rw [← used_eq hfs]; exact ok.u
  have hnd : (fs.map (·.name)).Nodup := by rw [← name_eq hfs]; exact ok.nd
  refine CallOK.of_spec ?_
  refine Ab.Spec.walk hm Try.func30 (by kernel_rfl) 300 ?_
  repeat' (first
    | ((with_reducible apply Onw.mk); conv => whnf)
    | (with_reducible first | apply Br.tt | apply Br.ff | apply Br.no)
    | ((with_reducible apply Br.t); · assumption)
    | ((with_reducible apply Br.f); · assumption)
    | ((with_reducible apply Br.dt); · exact ab_known)
    | ((with_reducible apply Br.df); · exact ab_known)
    | (with_reducible first | refine Br.dec (fun hc => ?_) (fun hc => ?_) | refine Br.mk (fun hc => ?_) (fun hc => ?_))
    | ((with_reducible first | apply NeedRows.mk | apply NeedMap.mk | apply NeedIter.mk); · exact ab_look)
    | ((with_reducible apply NeedLen.mk); · first | assumption | rfl)
    | ((with_reducible apply NeedRow.mk); · exact ab_lookR)
    | ((with_reducible apply DrawG.mk (List.replicate 60 false)); · decide +kernel)
    | (with_reducible first | refine NewP.mk (fun id hid => ?_) | refine NilP.mk (fun e he => ?_))
    | (with_reducible first | exact trivial | exact And.intro rfl rfl)
    | ((with_reducible apply PreP.mk); · exact ab_asked)
    | refine Exists.intro _ (PreP.mk (bytesOf_lst _) ?_)
    | refine PreP.mk (lenD_lst _) ?_
    | (with_reducible first | refine PreP.mk ?_ ?_ | refine BothP.mk ?_ ?_)
    | ((with_reducible apply AncOr.anc); · decide +kernel)
    | with_reducible refine AncOr.go ?_)
  refine CallOK.go (c53 h ok) (fun r2 H1 hr => ?_)
  obtain ⟨rfl, he1⟩ := hr
  have h1 := h.setRow (rStep m).steps (rStep m).power (rStep m).off
  have g1 : Goes H (idsR r fid fs) (setN H r (rRow fid fs.length m.quota (rStep m).steps (rStep m).power (rStep m).off)) (idsR r fid fs) := Goes.set (List.mem_cons_self ..)
  rw [← he1] at h1 g1
  clear he1
  have hm0 : RIs H1 r (rStep m) (idsR r fid fs) := ⟨fid, fs, h1, hfs, rfl⟩
  cases hoff : (rStep m).off with
  | true =>
    repeat' (first
      | ((with_reducible apply Onw.mk); conv => whnf)
      | (with_reducible first | apply Br.tt | apply Br.ff | apply Br.no)
      | ((with_reducible apply Br.t); · assumption)
      | ((with_reducible apply Br.f); · assumption)
      | ((with_reducible apply Br.dt); · exact ab_known)
      | ((with_reducible apply Br.df); · exact ab_known)
      | (with_reducible first | refine Br.dec (fun hc => ?_) (fun hc => ?_) | refine Br.mk (fun hc => ?_) (fun hc => ?_))
      | ((with_reducible first | apply NeedRows.mk | apply NeedMap.mk | apply NeedIter.mk); · exact ab_look)
      | ((with_reducible apply NeedLen.mk); · first | assumption | rfl)
      | ((with_reducible apply NeedRow.mk); · exact ab_lookR)
      | ((with_reducible apply DrawG.mk (List.replicate 60 false)); · decide +kernel)
      | (with_reducible first | refine NewP.mk (fun id hid => ?_) | refine NilP.mk (fun e he => ?_))
      | (with_reducible first | exact trivial | exact And.intro rfl rfl)
      | ((with_reducible apply PreP.mk); · exact ab_asked)
      | refine Exists.intro _ (PreP.mk (bytesOf_lst _) ?_)
      | refine PreP.mk (lenD_lst _) ?_
      | (with_reducible first | refine PreP.mk ?_ ?_ | refine BothP.mk ?_ ?_)
      | ((with_reducible apply AncOr.anc); · decide +kernel)
      | with_reducible refine AncOr.go ?_)
    all_goals exact ⟨by unfold rErr; rw [hoff]; rfl, _, (by unfold rRemoveM rErr; rw [hoff]; exact hm0), g1⟩
  | false =>
    repeat' (first
      | ((with_reducible apply Onw.mk); conv => whnf)
      | (with_reducible first | apply Br.tt | apply Br.ff | apply Br.no)
      | ((with_reducible apply Br.t); · assumption)
      | ((with_reducible apply Br.f); · assumption)
      | ((with_reducible apply Br.dt); · exact ab_known)
      | ((with_reducible apply Br.df); · exact ab_known)
      | (with_reducible first | refine Br.dec (fun hc => ?_) (fun hc => ?_) | refine Br.mk (fun hc => ?_) (fun hc => ?_))
      | ((with_reducible first | apply NeedRows.mk | apply NeedMap.mk | apply NeedIter.mk); · exact ab_look)
      | ((with_reducible apply NeedLen.mk); · first | assumption | rfl)
      | ((with_reducible apply NeedRow.mk); · exact ab_lookR)
      | ((with_reducible apply DrawG.mk (List.replicate 60 false)); · decide +kernel)
      | (with_reducible first | refine NewP.mk (fun id hid => ?_) | refine NilP.mk (fun e he => ?_))
      | (with_reducible first | exact trivial | exact And.intro rfl rfl)
      | ((with_reducible apply PreP.mk); · exact ab_asked)
      | refine Exists.intro _ (PreP.mk (bytesOf_lst _) ?_)
      | refine PreP.mk (lenD_lst _) ?_
      | (with_reducible first | refine PreP.mk ?_ ?_ | refine BothP.mk ?_ ?_)
      | ((with_reducible apply AncOr.anc); · decide +kernel)
      | with_reducible refine AncOr.go ?_)
    refine CallOK.go (c55 h1 (by omega) name) (fun r3 H2 hr => ?_)
    obtain ⟨rfl, rfl⟩ := hr
    have hh := has_idx hfs name
    unfold atI
    rcases Nat.lt_or_ge (idxN fs name) fs.length with hil | hil
    · rw [decide_eq_true hil] at hh
      rw [if_pos hil]
      obtain ⟨f, hf, hfn⟩ := idx_there hil
      have hc : ¬ ((idxN fs name : Int) < 0) := by omega
      have hE : rErr m name = 0 := by unfold rErr; rw [hoff, hh]; rfl
      have hM : rRemoveM m name = { rStep m with files := dropN' m.files name } := by unfold rRemoveM; rw [hE]; rfl
      repeat' (first
        | ((with_reducible apply Onw.mk); conv => whnf)
        | (with_reducible first | apply Br.tt | apply Br.ff | apply Br.no)
        | ((with_reducible apply Br.t); · assumption)
        | ((with_reducible apply Br.f); · assumption)
        | ((with_reducible apply Br.dt); · exact ab_known)
        | ((with_reducible apply Br.df); · exact ab_known)
        | (with_reducible first | refine Br.dec (fun hc => ?_) (fun hc => ?_) | refine Br.mk (fun hc => ?_) (fun hc => ?_))
        | ((with_reducible first | apply NeedRows.mk | apply NeedMap.mk | apply NeedIter.mk); · exact ab_look)
        | ((with_reducible apply NeedLen.mk); · first | assumption | rfl)
        | ((with_reducible apply NeedRow.mk); · exact ab_lookR)
        | ((with_reducible apply DrawG.mk (List.replicate 60 false)); · decide +kernel)
        | (with_reducible first | refine NewP.mk (fun id hid => ?_) | refine NilP.mk (fun e he => ?_))
        | (with_reducible first | exact trivial | exact And.intro rfl rfl)
        | ((with_reducible apply PreP.mk); · exact ab_asked)
        | refine Exists.intro _ (PreP.mk (bytesOf_lst _) ?_)
        | refine PreP.mk (lenD_lst _) ?_
        | (with_reducible first | refine PreP.mk ?_ ?_ | refine BothP.mk ?_ ?_)
        | ((with_reducible apply AncOr.anc); · decide +kernel)
        | with_reducible refine AncOr.go ?_)
      refine CallOK.go (CallOK.of_spec (s58 _ r fid fs _ _ _ _ (idxN fs name) f hf h1.row h1.rows h1.r_fid (by omega))) (fun r4 H3 hr => ?_)
      obtain ⟨rfl, rfl⟩ := hr
      repeat' (first
        | ((with_reducible apply Onw.mk); conv => whnf)
        | (with_reducible first | apply Br.tt | apply Br.ff | apply Br.no)
        | ((with_reducible apply Br.t); · assumption)
        | ((with_reducible apply Br.f); · assumption)
        | ((with_reducible apply Br.dt); · exact ab_known)
        | ((with_reducible apply Br.df); · exact ab_known)
        | (with_reducible first | refine Br.dec (fun hc => ?_) (fun hc => ?_) | refine Br.mk (fun hc => ?_) (fun hc => ?_))
        | ((with_reducible first | apply NeedRows.mk | apply NeedMap.mk | apply NeedIter.mk); · exact ab_look)
        | ((with_reducible apply NeedLen.mk); · first | assumption | rfl)
        | ((with_reducible apply NeedRow.mk); · exact ab_lookR)
        | ((with_reducible apply DrawG.mk (List.replicate 60 false)); · decide +kernel)
        | (with_reducible first | refine NewP.mk (fun id hid => ?_) | refine NilP.mk (fun e he => ?_))
        | (with_reducible first | exact trivial | exact And.intro rfl rfl)
        | ((with_reducible apply PreP.mk); · exact ab_asked)
        | refine Exists.intro _ (PreP.mk (bytesOf_lst _) ?_)
        | refine PreP.mk (lenD_lst _) ?_
        | (with_reducible first | refine PreP.mk ?_ ?_ | refine BothP.mk ?_ ?_)
        | ((with_reducible apply AncOr.anc); · decide +kernel)
        | with_reducible refine AncOr.go ?_)
      rw [hE, hM]
      have h3 := (h1.drop hf).1
      refine ⟨rfl, _, ⟨_, _, h3, ?_, rfl⟩, g1.trans ?_⟩
      · rw [← hfs]; exact erase_pf hnd name
      · exact goes_drop h1 hf
    · rw [decide_eq_false (by omega)] at hh
      rw [if_neg (by omega)]
      have hE : rErr m name = 210 := by unfold rErr; rw [hoff, hh]; rfl
      have hM : rRemoveM m name = rStep m := by unfold rRemoveM; rw [hE]; rfl
      repeat' (first
        | ((with_reducible apply Onw.mk); conv => whnf)
        | (with_reducible first | apply Br.tt | apply Br.ff | apply Br.no)
        | ((with_reducible apply Br.t); · assumption)
        | ((with_reducible apply Br.f); · assumption)
        | ((with_reducible apply Br.dt); · exact ab_known)
        | ((with_reducible apply Br.df); · exact ab_known)
        | (with_reducible first | refine Br.dec (fun hc => ?_) (fun hc => ?_) | refine Br.mk (fun hc => ?_) (fun hc => ?_))
        | ((with_reducible first | apply NeedRows.mk | apply NeedMap.mk | apply NeedIter.mk); · exact ab_look)
        | ((with_reducible apply NeedLen.mk); · first | assumption | rfl)
        | ((with_reducible apply NeedRow.mk); · exact ab_lookR)
        | ((with_reducible apply DrawG.mk (List.replicate 60 false)); · decide +kernel)
        | (with_reducible first | refine NewP.mk (fun id hid => ?_) | refine NilP.mk (fun e he => ?_))
        | (with_reducible first | exact trivial | exact And.intro rfl rfl)
        | ((with_reducible apply PreP.mk); · exact ab_asked)
        | refine Exists.intro _ (PreP.mk (bytesOf_lst _) ?_)
        | refine PreP.mk (lenD_lst _) ?_
        | (with_reducible first | refine PreP.mk ?_ ?_ | refine BothP.mk ?_ ?_)
        | ((with_reducible apply AncOr.anc); · decide +kernel)
        | with_reducible refine AncOr.go ?_)
      rw [hE, hM]
      exact ⟨rfl, _, hm0, g1⟩
/-- Power. -/
theorem b31 {H : Heap} {r : Nat} {m : Rf} {ids : List Nat} (h : RIs H r m ids) (a : Int) :
    CallOK Try.prog 31 [.ptr r 0 0, i64 a] H (fun res H' => res = .tup [] ∧ RIs H' r (rPowerM m a) ids ∧ Goes H ids H' ids) := by
  obtain ⟨fid, fs, h, hfs, rfl⟩ := h
  refine (CallOK.of_spec (s31 H r fid fs.length m.quota m.steps m.power m.off a h.row)).mono (fun res H' hr => ?_)
  obtain ⟨rfl, rfl⟩ := hr
  refine ⟨rfl, ?_⟩
  unfold rPowerM
  cases ho : m.off with
  | true => exact ⟨⟨fid, fs, by simp only [cond_true]; exact h, hfs, rfl⟩, Goes.refl _ _⟩
  | false =>
    simp only [cond_false]
    have h2 := h.setRow m.steps (if a < 0 then 0 else a) m.off
    rw [ho] at h2
    exact ⟨⟨fid, fs, by simp only [ho]; exact h2, hfs, rfl⟩, Goes.set (List.mem_cons_self ..)⟩
end Go.Proofs.Ytanknokhbfijdaa
