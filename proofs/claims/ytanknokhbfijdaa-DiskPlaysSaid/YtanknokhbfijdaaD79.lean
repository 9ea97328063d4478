/- What functions of the disk, and of the laws over it, do. Conditions: those that each theorem names. -/
import Derived.Test.YtanknokhbfijdaaD78
set_option linter.unusedVariables false
set_option linter.unusedSimpArgs false
namespace Go.Proofs.Ytanknokhbfijdaa
open Go.Ab
set_option maxRecDepth 100000
set_option maxHeartbeats 1000000
attribute [local irreducible] Run CallOK DetCall Br PreP BothP AncOr Onw NeedRows NeedMap NeedRow NeedLen NilP NeedIter RoundP EntryP EqP OptP NewP NewSlice NewMade AppTo DrawG anc drawB
/-- Append. -/
theorem b27 {H : Heap} {r : Nat} {m : Rf} {ids : List Nat} (h : RIs H r m ids) (ok : RfOK m) (name b : List UInt8) (hn : name.length ≤ 1000) (hb : b.length ≤ 100000) (hq : -9223372036854775808 ≤ m.quota ∧ m.quota ≤ 9223372036854775807) :
    CallOK Try.prog 27 [.ptr r 0 0, .p (.str name), .p (.lst (b.map byteRow))] H (fun res H' => res = i64 (rAppendE m name b) ∧ ∃ ids', RIs H' r (rAppendM m name b) ids' ∧ Goes H ids H' ids') := by
  obtain ⟨fid, fs, h, hfs, rfl⟩ := h
  have hl : fs.length ≤ 1000 := by rw [← len_eq hfs]; exact ok.n
  have hu : usedR fs ≤ 10000000 := by rw [← used_eq hfs]; exact ok.u
  have hnd : (fs.map (·.name)).Nodup := by rw [← name_eq hfs]; exact ok.nd
  refine CallOK.of_spec ?_
  refine Ab.Spec.walk hm Try.func27 (by kernel_rfl) 300 ?_
  repeat' (first
    | ((with_reducible apply Onw.mk); conv => whnf)
    | (with_reducible first | apply Br.tt | apply Br.ff | apply Br.no)
    | ((with_reducible apply Br.t); · assumption)
    | ((with_reducible apply Br.f); · assumption)
    | ((with_reducible apply Br.dt); · exact ab_known)
    | ((with_reducible apply Br.df); · exact ab_known)
    | (with_reducible first | refine Br.dec (fun hc => ?_) (fun hc => ?_) | refine Br.mk (fun hc => ?_) (fun hc => ?_))
    | ((with_reducible first | apply NeedRows.mk | apply NeedMap.mk | apply NeedIter.mk); · exact ab_look)
    | ((with_reducible apply NeedLen.mk); · first | assumption | rfl)
    | ((with_reducible apply NeedRow.mk); · exact ab_lookR)
    | ((with_reducible apply DrawG.mk (List.replicate 60 false)); · decide +kernel)
    | (with_reducible first | refine NewP.mk (fun id hid => ?_) | refine NilP.mk (fun e he => ?_))
    | (with_reducible first | exact trivial | exact And.intro rfl rfl)
    | ((with_reducible apply PreP.mk); · exact ab_asked)
    | refine Exists.intro _ (PreP.mk (bytesOf_lst _) ?_)
    | refine PreP.mk (lenD_lst _) ?_
    | (with_reducible first | refine PreP.mk ?_ ?_ | refine BothP.mk ?_ ?_)
    | ((with_reducible apply AncOr.anc); · decide +kernel)
    | with_reducible refine AncOr.go ?_)
  refine CallOK.go (c53 h ok) (fun r2 H1 hr => ?_)
  obtain ⟨rfl, he1⟩ := hr
  have h1 := h.setRow (rStep m).steps (rStep m).power (rStep m).off
  have g1 : Goes H (idsR r fid fs) (setN H r (rRow fid fs.length m.quota (rStep m).steps (rStep m).power (rStep m).off)) (idsR r fid fs) := Goes.set (List.mem_cons_self ..)
  rw [← he1] at h1 g1
  clear he1
  have hm0 : RIs H1 r (rStep m) (idsR r fid fs) := ⟨fid, fs, h1, hfs, rfl⟩
  cases hoff : (rStep m).off with
  | true =>
    repeat' (first
      | ((with_reducible apply Onw.mk); conv => whnf)
      | (with_reducible first | apply Br.tt | apply Br.ff | apply Br.no)
      | ((with_reducible apply Br.t); · assumption)
      | ((with_reducible apply Br.f); · assumption)
      | ((with_reducible apply Br.dt); · exact ab_known)
      | ((with_reducible apply Br.df); · exact ab_known)
      | (with_reducible first | refine Br.dec (fun hc => ?_) (fun hc => ?_) | refine Br.mk (fun hc => ?_) (fun hc => ?_))
      | ((with_reducible first | apply NeedRows.mk | apply NeedMap.mk | apply NeedIter.mk); · exact ab_look)
      | ((with_reducible apply NeedLen.mk); · first | assumption | rfl)
      | ((with_reducible apply NeedRow.mk); · exact ab_lookR)
      | ((with_reducible apply DrawG.mk (List.replicate 60 false)); · decide +kernel)
      | (with_reducible first | refine NewP.mk (fun id hid => ?_) | refine NilP.mk (fun e he => ?_))
      | (with_reducible first | exact trivial | exact And.intro rfl rfl)
      | ((with_reducible apply PreP.mk); · exact ab_asked)
      | refine Exists.intro _ (PreP.mk (bytesOf_lst _) ?_)
      | refine PreP.mk (lenD_lst _) ?_
      | (with_reducible first | refine PreP.mk ?_ ?_ | refine BothP.mk ?_ ?_)
      | ((with_reducible apply AncOr.anc); · decide +kernel)
      | with_reducible refine AncOr.go ?_)
    all_goals exact ⟨by unfold rAppendE; rw [hoff]; rfl, _, (by unfold rAppendM rAppendE; rw [hoff]; exact hm0), g1⟩
  | false =>
    repeat' (first
      | ((with_reducible apply Onw.mk); conv => whnf)
      | (with_reducible first | apply Br.tt | apply Br.ff | apply Br.no)
      | ((with_reducible apply Br.t); · assumption)
      | ((with_reducible apply Br.f); · assumption)
      | ((with_reducible apply Br.dt); · exact ab_known)
      | ((with_reducible apply Br.df); · exact ab_known)
      | (with_reducible first | refine Br.dec (fun hc => ?_) (fun hc => ?_) | refine Br.mk (fun hc => ?_) (fun hc => ?_))
      | ((with_reducible first | apply NeedRows.mk | apply NeedMap.mk | apply NeedIter.mk); · exact ab_look)
      | ((with_reducible apply NeedLen.mk); · first | assumption | rfl)
      | ((with_reducible apply NeedRow.mk); · exact ab_lookR)
      | ((with_reducible apply DrawG.mk (List.replicate 60 false)); · decide +kernel)
      | (with_reducible first | refine NewP.mk (fun id hid => ?_) | refine NilP.mk (fun e he => ?_))
      | (with_reducible first | exact trivial | exact And.intro rfl rfl)
      | ((with_reducible apply PreP.mk); · exact ab_asked)
      | refine Exists.intro _ (PreP.mk (bytesOf_lst _) ?_)
      | refine PreP.mk (lenD_lst _) ?_
      | (with_reducible first | refine PreP.mk ?_ ?_ | refine BothP.mk ?_ ?_)
      | ((with_reducible apply AncOr.anc); · decide +kernel)
      | with_reducible refine AncOr.go ?_)
    refine CallOK.go (c54 name hn _) (fun r3 H2 hr => ?_)
    obtain ⟨rfl, rfl⟩ := hr
    have hrow := h1.row
    unfold rRow at hrow
    cases hok : okName name with
    | false =>
      repeat' (first
        | ((with_reducible apply Onw.mk); conv => whnf)
        | (with_reducible first | apply Br.tt | apply Br.ff | apply Br.no)
        | ((with_reducible apply Br.t); · assumption)
        | ((with_reducible apply Br.f); · assumption)
        | ((with_reducible apply Br.dt); · exact ab_known)
        | ((with_reducible apply Br.df); · exact ab_known)
        | (with_reducible first | refine Br.dec (fun hc => ?_) (fun hc => ?_) | refine Br.mk (fun hc => ?_) (fun hc => ?_))
        | ((with_reducible first | apply NeedRows.mk | apply NeedMap.mk | apply NeedIter.mk); · exact ab_look)
        | ((with_reducible apply NeedLen.mk); · first | assumption | rfl)
        | ((with_reducible apply NeedRow.mk); · exact ab_lookR)
        | ((with_reducible apply DrawG.mk (List.replicate 60 false)); · decide +kernel)
        | (with_reducible first | refine NewP.mk (fun id hid => ?_) | refine NilP.mk (fun e he => ?_))
        | (with_reducible first | exact trivial | exact And.intro rfl rfl)
        | ((with_reducible apply PreP.mk); · exact ab_asked)
        | refine Exists.intro _ (PreP.mk (bytesOf_lst _) ?_)
        | refine PreP.mk (lenD_lst _) ?_
        | (with_reducible first | refine PreP.mk ?_ ?_ | refine BothP.mk ?_ ?_)
        | ((with_reducible apply AncOr.anc); · decide +kernel)
        | with_reducible refine AncOr.go ?_)
      exact ⟨by unfold rAppendE; rw [hoff, hok]; rfl, _, (by unfold rAppendM rAppendE; rw [hoff, hok]; exact hm0), g1⟩
    | true =>
    repeat' (first
      | ((with_reducible apply Onw.mk); conv => whnf)
      | (with_reducible first | apply Br.tt | apply Br.ff | apply Br.no)
      | ((with_reducible apply Br.t); · assumption)
      | ((with_reducible apply Br.f); · assumption)
      | ((with_reducible apply Br.dt); · exact ab_known)
      | ((with_reducible apply Br.df); · exact ab_known)
      | (with_reducible first | refine Br.dec (fun hc => ?_) (fun hc => ?_) | refine Br.mk (fun hc => ?_) (fun hc => ?_))
      | ((with_reducible first | apply NeedRows.mk | apply NeedMap.mk | apply NeedIter.mk); · exact ab_look)
      | ((with_reducible apply NeedLen.mk); · first | assumption | rfl)
      | ((with_reducible apply NeedRow.mk); · exact ab_lookR)
      | ((with_reducible apply DrawG.mk (List.replicate 60 false)); · decide +kernel)
      | (with_reducible first | refine NewP.mk (fun id hid => ?_) | refine NilP.mk (fun e he => ?_))
      | (with_reducible first | exact trivial | exact And.intro rfl rfl)
      | ((with_reducible apply PreP.mk); · exact ab_asked)
      | refine Exists.intro _ (PreP.mk (bytesOf_lst _) ?_)
      | refine PreP.mk (lenD_lst _) ?_
      | (with_reducible first | refine PreP.mk ?_ ?_ | refine BothP.mk ?_ ?_)
      | ((with_reducible apply AncOr.anc); · decide +kernel)
      | with_reducible refine AncOr.go ?_)
    refine CallOK.go (c55 h1 (by omega) name) (fun r3 H3 hr => ?_)
    obtain ⟨rfl, rfl⟩ := hr
    have hh := has_idx hfs name
    have hk56 := c56 h1 (by omega) (by omega)
    have hbl : ((b.map byteRow).length : Int) = b.length := by simp
    have hF : rFull m b.length (hasN m.files name) = ((decide (0 < b.length) && decide (IntKind.i64.wrap (m.quota - b.length) < usedR fs)) || decide (m.quota < usedR fs) || (!decide (idxN fs name < fs.length) && decide (50 ≤ fs.length))) := by
      unfold rFull; rw [used_eq hfs, len_eq hfs, hh]
    have hFULL : rFull m b.length (hasN m.files name) = true → rAppendE m name b = 211 ∧ rAppendM m name b = rStep m := by
      intro ht
      have hE : rAppendE m name b = 211 := by unfold rAppendE; rw [hoff, hok, ht]; rfl
      exact ⟨hE, by unfold rAppendM; rw [hE]; rfl⟩
    have hOK : rFull m b.length (hasN m.files name) = false → rAppendE m name b = 0 ∧ rAppendM m name b = { rStep m with files := modN (bif hasN m.files name then m.files else insP ⟨name, [], 0⟩ m.files) name fun p => { p with bytes := p.bytes ++ b } } := by
      intro ht
      have hE : rAppendE m name b = 0 := by unfold rAppendE; rw [hoff, hok, ht]; rfl
      exact ⟨hE, by unfold rAppendM; rw [hE]; rfl⟩
    unfold atI
    by_cases ha1 : 0 < b.length
    · have hc1 : (0 : Int) < ((b.map byteRow).length : Int) := by rw [hbl]; omega
      by_cases ha2 : IntKind.i64.wrap (m.quota - b.length) < usedR fs
      · have hc2 : IntKind.i64.wrap (m.quota - ((b.map byteRow).length : Int)) < (usedR fs : Int) := by rw [hbl]; exact ha2
        repeat' (first
          | ((with_reducible apply Onw.mk); conv => whnf)
          | (with_reducible first | apply Br.tt | apply Br.ff | apply Br.no)
          | ((with_reducible apply Br.t); · assumption)
          | ((with_reducible apply Br.f); · assumption)
          | ((with_reducible apply Br.dt); · exact ab_known)
          | ((with_reducible apply Br.df); · exact ab_known)
          | (with_reducible first | refine Br.dec (fun hc => ?_) (fun hc => ?_) | refine Br.mk (fun hc => ?_) (fun hc => ?_))
          | (refine CallOK.go (hk56) (fun r2 H2 hr2 => ?_); obtain ⟨rfl, he2⟩ := hr2; rw [he2]; clear he2 H2)
          | (refine DetCall.go hk56 ?_)
          | ((with_reducible first | apply NeedRows.mk | apply NeedMap.mk | apply NeedIter.mk); · exact ab_look)
          | ((with_reducible apply NeedLen.mk); · first | assumption | rfl)
          | ((with_reducible apply NeedRow.mk); · exact ab_lookR)
          | ((with_reducible apply DrawG.mk (List.replicate 60 false)); · decide +kernel)
          | (with_reducible first | refine NewP.mk (fun id hid => ?_) | refine NilP.mk (fun e he => ?_))
          | (with_reducible first | exact trivial | exact And.intro rfl rfl)
          | ((with_reducible apply PreP.mk); · exact ab_asked)
          | refine Exists.intro _ (PreP.mk (bytesOf_lst _) ?_)
          | refine PreP.mk (lenD_lst _) ?_
          | (with_reducible first | refine PreP.mk ?_ ?_ | refine BothP.mk ?_ ?_)
          | ((with_reducible apply AncOr.anc); · decide +kernel)
          | with_reducible refine AncOr.go ?_)
        have hft := hFULL (by rw [hF]; simp only [Bool.or_eq_true, Bool.and_eq_true, Bool.not_eq_true', decide_eq_true_eq, decide_eq_false_iff_not]; omega)
        rw [hft.1, hft.2]
        exact ⟨rfl, _, hm0, g1⟩
      · have hc2 : ¬ IntKind.i64.wrap (m.quota - ((b.map byteRow).length : Int)) < (usedR fs : Int) := by rw [hbl]; exact ha2
        by_cases ha3 : m.quota < usedR fs
        · have hc3 : m.quota < (usedR fs : Int) := ha3
          repeat' (first
            | ((with_reducible apply Onw.mk); conv => whnf)
            | (with_reducible first | apply Br.tt | apply Br.ff | apply Br.no)
            | ((with_reducible apply Br.t); · assumption)
            | ((with_reducible apply Br.f); · assumption)
            | ((with_reducible apply Br.dt); · exact ab_known)
            | ((with_reducible apply Br.df); · exact ab_known)
            | (with_reducible first | refine Br.dec (fun hc => ?_) (fun hc => ?_) | refine Br.mk (fun hc => ?_) (fun hc => ?_))
            | (refine CallOK.go (hk56) (fun r2 H2 hr2 => ?_); obtain ⟨rfl, he2⟩ := hr2; rw [he2]; clear he2 H2)
            | (refine DetCall.go hk56 ?_)
            | ((with_reducible first | apply NeedRows.mk | apply NeedMap.mk | apply NeedIter.mk); · exact ab_look)
            | ((with_reducible apply NeedLen.mk); · first | assumption | rfl)
            | ((with_reducible apply NeedRow.mk); · exact ab_lookR)
            | ((with_reducible apply DrawG.mk (List.replicate 60 false)); · decide +kernel)
            | (with_reducible first | refine NewP.mk (fun id hid => ?_) | refine NilP.mk (fun e he => ?_))
            | (with_reducible first | exact trivial | exact And.intro rfl rfl)
            | ((with_reducible apply PreP.mk); · exact ab_asked)
            | refine Exists.intro _ (PreP.mk (bytesOf_lst _) ?_)
            | refine PreP.mk (lenD_lst _) ?_
            | (with_reducible first | refine PreP.mk ?_ ?_ | refine BothP.mk ?_ ?_)
            | ((with_reducible apply AncOr.anc); · decide +kernel)
            | with_reducible refine AncOr.go ?_)
          have hft := hFULL (by rw [hF]; simp only [Bool.or_eq_true, Bool.and_eq_true, Bool.not_eq_true', decide_eq_true_eq, decide_eq_false_iff_not]; omega)
          rw [hft.1, hft.2]
          exact ⟨rfl, _, hm0, g1⟩
        by_cases ha4 : idxN fs name < fs.length
        · rw [if_pos ha4]
          have hc4 : ¬ ((idxN fs name : Int) < 0) := by omega
          have hft := hOK (by rw [hF]; simp only [Bool.or_eq_false_iff, Bool.and_eq_false_iff, Bool.not_eq_false', decide_eq_true_eq, decide_eq_false_iff_not]; omega)
          rw [hft.1, hft.2]
          rw [decide_eq_true ha4] at hh
          rw [hh]
          obtain ⟨f, hf, hfn⟩ := idx_there ha4
          have hnth := rowF_nth hf
          have hp0 : (0 : Int) ≤ (idxN fs name : Int) ∧ (idxN fs name : Int) < (fs.length : Int) := by omega
          have hrow3 := h1.row
          unfold rRow at hrow3
          have hrows3 := h1.rows
          have hby := h1.bytes f (List.mem_of_getElem? hf)
          have hbd := h1.r_bid (List.mem_of_getElem? hf)
          have hbd1 : f.bid ≠ r := fun e => hbd.1 e.symm
          have hbd2 : f.bid ≠ fid := fun e => hbd.2 e.symm
          have hfl : f.bytes.length ≤ 10000000 := by have h5 := usedR_take fs hf; have h6 := usedR_le fs (idxN fs name + 1); omega
          repeat' (first
            | ((with_reducible apply Onw.mk); conv => whnf)
            | (with_reducible first | apply Br.tt | apply Br.ff | apply Br.no)
            | ((with_reducible apply Br.t); · assumption)
            | ((with_reducible apply Br.f); · assumption)
            | ((with_reducible apply Br.dt); · exact ab_known)
            | ((with_reducible apply Br.df); · exact ab_known)
            | (with_reducible first | refine Br.dec (fun hc => ?_) (fun hc => ?_) | refine Br.mk (fun hc => ?_) (fun hc => ?_))
            | (refine CallOK.go (hk56) (fun r2 H2 hr2 => ?_); obtain ⟨rfl, he2⟩ := hr2; rw [he2]; clear he2 H2)
            | (refine DetCall.go hk56 ?_)
            | (refine PreP.mk hp0 ?_)
            | ((with_reducible apply DrawG.mkN 18 [false, false, false, false, false, false, false, false, false, false, false, false, false, false, true, false, false, true]); · decide +kernel)
            | ((with_reducible first | apply NeedRows.mk | apply NeedMap.mk | apply NeedIter.mk); · exact ab_look)
            | ((with_reducible apply NeedLen.mk); · first | assumption | rfl)
            | ((with_reducible apply NeedRow.mk); · exact ab_lookR)
            | ((with_reducible apply DrawG.mk (List.replicate 60 false)); · decide +kernel)
            | (with_reducible first | refine NewP.mk (fun id hid => ?_) | refine NilP.mk (fun e he => ?_))
            | (with_reducible first | exact trivial | exact And.intro rfl rfl)
            | ((with_reducible apply PreP.mk); · exact ab_asked)
            | refine Exists.intro _ (PreP.mk (bytesOf_lst _) ?_)
            | refine PreP.mk (lenD_lst _) ?_
            | (with_reducible first | refine PreP.mk ?_ ?_ | refine BothP.mk ?_ ?_)
            | ((with_reducible apply AncOr.anc); · decide +kernel)
            | with_reducible refine AncOr.go ?_)
          · refine ⟨?_, ?_, fun q hq => ?_, fun q hq => ?_, by simp⟩
            · show (f.bytes.length + (((b.map byteRow).map (·.map D.p))).length) * 1 ≤ maxRoom
              unfold maxRoom; simp; omega
            · show f.bytes.length + (((b.map byteRow).map (·.map D.p))).length ≤ maxS
              unfold maxS; simp; omega
            · rw [byteRow_map] at hq
              exact byteRows_len b q hq
            · rw [byteRow_map] at hq
              obtain ⟨y, _, rfl⟩ := List.mem_map.1 hq
              intro d hd
              simp [byteRowD] at hd
              subst hd; rfl
          refine AppTo.new (fun id5 hid5 => ?_)
          repeat' (first
            | ((with_reducible apply Onw.mk); conv => whnf)
            | (with_reducible first | apply Br.tt | apply Br.ff | apply Br.no)
            | ((with_reducible apply Br.t); · assumption)
            | ((with_reducible apply Br.f); · assumption)
            | ((with_reducible apply Br.dt); · exact ab_known)
            | ((with_reducible apply Br.df); · exact ab_known)
            | (with_reducible first | refine Br.dec (fun hc => ?_) (fun hc => ?_) | refine Br.mk (fun hc => ?_) (fun hc => ?_))
            | ((with_reducible apply DrawG.mkN 18 [false, false, false, false, false, false, false, false, false, false, false, false, false, false, true, false, false, true]); · decide +kernel)
            | ((with_reducible first | apply NeedRows.mk | apply NeedMap.mk | apply NeedIter.mk); · exact ab_look)
            | ((with_reducible apply NeedLen.mk); · first | assumption | rfl)
            | ((with_reducible apply NeedRow.mk); · exact ab_lookR)
            | ((with_reducible apply DrawG.mk (List.replicate 60 false)); · decide +kernel)
            | (with_reducible first | refine NewP.mk (fun id hid => ?_) | refine NilP.mk (fun e he => ?_))
            | (with_reducible first | exact trivial | exact And.intro rfl rfl)
            | ((with_reducible apply PreP.mk); · exact ab_asked)
            | refine Exists.intro _ (PreP.mk (bytesOf_lst _) ?_)
            | refine PreP.mk (lenD_lst _) ?_
            | (with_reducible first | refine PreP.mk ?_ ?_ | refine BothP.mk ?_ ?_)
            | ((with_reducible apply AncOr.anc); · decide +kernel)
            | with_reducible refine AncOr.go ?_)
          have hX : (setN H3 f.bid .gone).length = H3.length := setN_length _ _ _
          have hlen5 : f.bytes.length + (((b.map byteRow).map (·.map D.p))).length = (f.bytes ++ b).length := by simp
          have e5 : List.take f.bytes.length (List.drop 0 (f.bytes.map byteRowD)) ++ (b.map byteRow).map (·.map D.p) = (f.bytes ++ b).map byteRowD := by rw [List.drop_zero, List.take_of_length_le (by simp), byteRow_map, List.map_append]
          have e6 : setN (fs.map rowF) (0 + (idxN fs name : Int).toNat) [.p (.str f.name), .own id5 1 0 (f.bytes ++ b).length none, i64 (f.kept : Nat)] = (fs.set (idxN fs name) ⟨f.name, id5, f.bytes ++ b, f.kept⟩).map rowF := by
            rw [Int.toNat_natCast, Nat.zero_add]
            exact map_set_rowF fs (idxN fs name) ⟨f.name, id5, f.bytes ++ b, f.kept⟩
          have h5 := h1.setBytes hf (f.bytes ++ b) f.kept (X := setN H3 f.bid .gone) hX (fun j x hj hx => nth_setN_ne (fun e => hj e.symm) hx)
          have g5 := goes_bytes h1 hf (f.bytes ++ b) f.kept
          rw [← hid5, ← e6, ← e5, ← hlen5] at h5 g5
          have h4 := set_pf (f' := ⟨f.name, id5, f.bytes ++ b, f.kept⟩) hnd hf (fun p => { p with bytes := p.bytes ++ b }) rfl
          exact ⟨rfl, _, ⟨fid, _, h5, h4.trans (by rw [hfn, hfs]; rfl), rfl⟩, g1.trans g5⟩
        · rw [if_neg ha4]
          by_cases ha5 : 50 ≤ fs.length
          · have hc5 : (50 : Int) ≤ (fs.length : Int) := by omega
            repeat' (first
              | ((with_reducible apply Onw.mk); conv => whnf)
              | (with_reducible first | apply Br.tt | apply Br.ff | apply Br.no)
              | ((with_reducible apply Br.t); · assumption)
              | ((with_reducible apply Br.f); · assumption)
              | ((with_reducible apply Br.dt); · exact ab_known)
              | ((with_reducible apply Br.df); · exact ab_known)
              | (with_reducible first | refine Br.dec (fun hc => ?_) (fun hc => ?_) | refine Br.mk (fun hc => ?_) (fun hc => ?_))
              | (refine CallOK.go (hk56) (fun r2 H2 hr2 => ?_); obtain ⟨rfl, he2⟩ := hr2; rw [he2]; clear he2 H2)
              | (refine DetCall.go hk56 ?_)
              | ((with_reducible first | apply NeedRows.mk | apply NeedMap.mk | apply NeedIter.mk); · exact ab_look)
              | ((with_reducible apply NeedLen.mk); · first | assumption | rfl)
              | ((with_reducible apply NeedRow.mk); · exact ab_lookR)
              | ((with_reducible apply DrawG.mk (List.replicate 60 false)); · decide +kernel)
              | (with_reducible first | refine NewP.mk (fun id hid => ?_) | refine NilP.mk (fun e he => ?_))
              | (with_reducible first | exact trivial | exact And.intro rfl rfl)
              | ((with_reducible apply PreP.mk); · exact ab_asked)
              | refine Exists.intro _ (PreP.mk (bytesOf_lst _) ?_)
              | refine PreP.mk (lenD_lst _) ?_
              | (with_reducible first | refine PreP.mk ?_ ?_ | refine BothP.mk ?_ ?_)
              | ((with_reducible apply AncOr.anc); · decide +kernel)
              | with_reducible refine AncOr.go ?_)
            have hft := hFULL (by rw [hF]; simp only [Bool.or_eq_true, Bool.and_eq_true, Bool.not_eq_true', decide_eq_true_eq, decide_eq_false_iff_not]; omega)
            rw [hft.1, hft.2]
            exact ⟨rfl, _, hm0, g1⟩
          · have hc5 : ¬ (50 : Int) ≤ (fs.length : Int) := by omega
            have hft := hOK (by rw [hF]; simp only [Bool.or_eq_false_iff, Bool.and_eq_false_iff, Bool.not_eq_false', decide_eq_true_eq, decide_eq_false_iff_not]; omega)
            rw [hft.1, hft.2]
            rw [decide_eq_false ha4] at hh
            rw [hh]
            repeat' (first
              | ((with_reducible apply Onw.mk); conv => whnf)
              | (with_reducible first | apply Br.tt | apply Br.ff | apply Br.no)
              | ((with_reducible apply Br.t); · assumption)
              | ((with_reducible apply Br.f); · assumption)
              | ((with_reducible apply Br.dt); · exact ab_known)
              | ((with_reducible apply Br.df); · exact ab_known)
              | (with_reducible first | refine Br.dec (fun hc => ?_) (fun hc => ?_) | refine Br.mk (fun hc => ?_) (fun hc => ?_))
              | (refine CallOK.go (hk56) (fun r2 H2 hr2 => ?_); obtain ⟨rfl, he2⟩ := hr2; rw [he2]; clear he2 H2)
              | (refine DetCall.go hk56 ?_)
              | ((with_reducible first | apply NeedRows.mk | apply NeedMap.mk | apply NeedIter.mk); · exact ab_look)
              | ((with_reducible apply NeedLen.mk); · first | assumption | rfl)
              | ((with_reducible apply NeedRow.mk); · exact ab_lookR)
              | ((with_reducible apply DrawG.mk (List.replicate 60 false)); · decide +kernel)
              | (with_reducible first | refine NewP.mk (fun id hid => ?_) | refine NilP.mk (fun e he => ?_))
              | (with_reducible first | exact trivial | exact And.intro rfl rfl)
              | ((with_reducible apply PreP.mk); · exact ab_asked)
              | refine Exists.intro _ (PreP.mk (bytesOf_lst _) ?_)
              | refine PreP.mk (lenD_lst _) ?_
              | (with_reducible first | refine PreP.mk ?_ ?_ | refine BothP.mk ?_ ?_)
              | ((with_reducible apply AncOr.anc); · decide +kernel)
              | with_reducible refine AncOr.go ?_)
            refine CallOK.go (CallOK.of_spec (s57n _ r fid fs _ _ _ _ name h1.row h1.rows h1.r_fid (by omega))) (fun r4 H4 hr => ?_)
            obtain ⟨rfl, rfl⟩ := hr
            repeat' (first
              | ((with_reducible apply Onw.mk); conv => whnf)
              | (with_reducible first | apply Br.tt | apply Br.ff | apply Br.no)
              | ((with_reducible apply Br.t); · assumption)
              | ((with_reducible apply Br.f); · assumption)
              | ((with_reducible apply Br.dt); · exact ab_known)
              | ((with_reducible apply Br.df); · exact ab_known)
              | (with_reducible first | refine Br.dec (fun hc => ?_) (fun hc => ?_) | refine Br.mk (fun hc => ?_) (fun hc => ?_))
              | ((with_reducible first | apply NeedRows.mk | apply NeedMap.mk | apply NeedIter.mk); · exact ab_look)
              | ((with_reducible apply NeedLen.mk); · first | assumption | rfl)
              | ((with_reducible apply NeedRow.mk); · exact ab_lookR)
              | ((with_reducible apply DrawG.mk (List.replicate 60 false)); · decide +kernel)
              | (with_reducible first | refine NewP.mk (fun id hid => ?_) | refine NilP.mk (fun e he => ?_))
              | (with_reducible first | exact trivial | exact And.intro rfl rfl)
              | ((with_reducible apply PreP.mk); · exact ab_asked)
              | refine Exists.intro _ (PreP.mk (bytesOf_lst _) ?_)
              | refine PreP.mk (lenD_lst _) ?_
              | (with_reducible first | refine PreP.mk ?_ ?_ | refine BothP.mk ?_ ?_)
              | ((with_reducible apply AncOr.anc); · decide +kernel)
              | with_reducible refine AncOr.go ?_)
            have hI := h1.insertNew name
            have hk : ((fs.map rowF).take (posN fs name)).length = posN fs name := by rw [List.length_take, List.length_map]; exact Nat.min_eq_left (posN_le fs name)
            refine CallOK.go (CallOK.virtCell 1 (H3.length + 1) (posN fs name) 1 (rs := insRows fs name [.p (.str name), .p .nil, i64 0]) (row := [.p (.str name), .p .nil, i64 0]) (nth_setN_ne (by have := nth_lt h1.row; omega) (nth_new (by rw [setN_length]; simp))) (by rw [nth_eq]; unfold insRows; rw [List.append_assoc, List.getElem?_append_right (by omega), hk, Nat.sub_self]; rfl) rfl (c55 hI (by rw [(insF_perm fs _).length_eq]; simp; omega) name)) (fun r5 H5 hr => ?_)
            obtain ⟨rfl, he5⟩ := hr
            have gI : Goes H (idsR r fid fs) H5 (idsR r (H3.length + 1) (insF fs ⟨name, (insHeap H3 r fid fs m.quota (rStep m).steps (rStep m).power (rStep m).off name [.p (.str name), .p .nil, i64 0]).length, [], 0⟩)) := by
              rw [he5]
              exact g1.trans (goes_insNew h1 name)
            rw [← he5] at hI
            clear he5
            generalize (insHeap H3 r fid fs m.quota (rStep m).steps (rStep m).power (rStep m).off name [.p (.str name), .p .nil, i64 0]).length = L at hI gI ⊢
            have hno : ∀ g ∈ fs, g.name ≠ name := fun g hg e => ha4 (List.findIdx_lt_length_of_exists ⟨g, hg, by simp [e]⟩)
            have hnd2 : ((insF fs ⟨name, L, [], 0⟩).map (·.name)).Nodup := by
              refine (((insF_perm fs ⟨name, L, [], 0⟩).map (·.name)).nodup_iff).2 (List.nodup_cons.2 ⟨fun e => ?_, hnd⟩)
              obtain ⟨g, hg, he⟩ := List.mem_map.1 e
              exact hno g hg he
            have hl2 : (insF fs ⟨name, L, [], 0⟩).length = fs.length + 1 := (insF_perm fs _).length_eq
            have ha6 : idxN (insF fs ⟨name, L, [], 0⟩) name < (insF fs ⟨name, L, [], 0⟩).length := List.findIdx_lt_length_of_exists ⟨⟨name, L, [], 0⟩, insF_mem.2 (.inl rfl), by simp⟩
            unfold atI
            rw [if_pos ha6]
            have hpf : (insF fs ⟨name, L, [], 0⟩).map rpf = insP ⟨name, [], 0⟩ m.files := by rw [← hfs]; exact insF_pf fs ⟨name, L, [], 0⟩
            obtain ⟨f, hf, hfn⟩ := idx_there ha6
            have hfm := List.mem_of_getElem? hf
            have hfe : f = ⟨name, L, [], 0⟩ := by
              rcases insF_mem.1 hfm with e | e
              · exact e
              · exact absurd hfn (hno f e)
            have hfb : f.bytes.length = 0 := by rw [hfe]; rfl
            clear hfe
            generalize insF fs ⟨name, L, [], 0⟩ = fs2 at *
            generalize H3.length + 1 = fid2 at *
            have hnth := rowF_nth hf
            have hp0 : (0 : Int) ≤ (idxN fs2 name : Int) ∧ (idxN fs2 name : Int) < (fs2.length : Int) := by omega
            have hrow3 := hI.row
            unfold rRow at hrow3
            have hrows3 := hI.rows
            have hby := hI.bytes f (List.mem_of_getElem? hf)
            have hbd := hI.r_bid (List.mem_of_getElem? hf)
            have hbd1 : f.bid ≠ r := fun e => hbd.1 e.symm
            have hbd2 : f.bid ≠ fid2 := fun e => hbd.2 e.symm
            have hfl : f.bytes.length ≤ 10000000 := by omega
            repeat' (first
              | ((with_reducible apply Onw.mk); conv => whnf)
              | (with_reducible first | apply Br.tt | apply Br.ff | apply Br.no)
              | ((with_reducible apply Br.t); · assumption)
              | ((with_reducible apply Br.f); · assumption)
              | ((with_reducible apply Br.dt); · exact ab_known)
              | ((with_reducible apply Br.df); · exact ab_known)
              | (with_reducible first | refine Br.dec (fun hc => ?_) (fun hc => ?_) | refine Br.mk (fun hc => ?_) (fun hc => ?_))
              | (refine CallOK.go (hk56) (fun r2 H2 hr2 => ?_); obtain ⟨rfl, he2⟩ := hr2; rw [he2]; clear he2 H2)
              | (refine DetCall.go hk56 ?_)
              | (refine PreP.mk hp0 ?_)
              | ((with_reducible apply DrawG.mkN 18 [false, false, false, false, false, false, false, false, false, false, false, false, false, false, true, false, false, true]); · decide +kernel)
              | ((with_reducible first | apply NeedRows.mk | apply NeedMap.mk | apply NeedIter.mk); · exact ab_look)
              | ((with_reducible apply NeedLen.mk); · first | assumption | rfl)
              | ((with_reducible apply NeedRow.mk); · exact ab_lookR)
              | ((with_reducible apply DrawG.mk (List.replicate 60 false)); · decide +kernel)
              | (with_reducible first | refine NewP.mk (fun id hid => ?_) | refine NilP.mk (fun e he => ?_))
              | (with_reducible first | exact trivial | exact And.intro rfl rfl)
              | ((with_reducible apply PreP.mk); · exact ab_asked)
              | refine Exists.intro _ (PreP.mk (bytesOf_lst _) ?_)
              | refine PreP.mk (lenD_lst _) ?_
              | (with_reducible first | refine PreP.mk ?_ ?_ | refine BothP.mk ?_ ?_)
              | ((with_reducible apply AncOr.anc); · decide +kernel)
              | with_reducible refine AncOr.go ?_)
            · refine ⟨?_, ?_, fun q hq => ?_, fun q hq => ?_, by simp⟩
              · show (f.bytes.length + (((b.map byteRow).map (·.map D.p))).length) * 1 ≤ maxRoom
                unfold maxRoom; simp; omega
              · show f.bytes.length + (((b.map byteRow).map (·.map D.p))).length ≤ maxS
                unfold maxS; simp; omega
              · rw [byteRow_map] at hq
                exact byteRows_len b q hq
              · rw [byteRow_map] at hq
                obtain ⟨y, _, rfl⟩ := List.mem_map.1 hq
                intro d hd
                simp [byteRowD] at hd
                subst hd; rfl
            refine AppTo.new (fun id5 hid5 => ?_)
            repeat' (first
              | ((with_reducible apply Onw.mk); conv => whnf)
              | (with_reducible first | apply Br.tt | apply Br.ff | apply Br.no)
              | ((with_reducible apply Br.t); · assumption)
              | ((with_reducible apply Br.f); · assumption)
              | ((with_reducible apply Br.dt); · exact ab_known)
              | ((with_reducible apply Br.df); · exact ab_known)
              | (with_reducible first | refine Br.dec (fun hc => ?_) (fun hc => ?_) | refine Br.mk (fun hc => ?_) (fun hc => ?_))
              | ((with_reducible apply DrawG.mkN 18 [false, false, false, false, false, false, false, false, false, false, false, false, false, false, true, false, false, true]); · decide +kernel)
              | ((with_reducible first | apply NeedRows.mk | apply NeedMap.mk | apply NeedIter.mk); · exact ab_look)
              | ((with_reducible apply NeedLen.mk); · first | assumption | rfl)
              | ((with_reducible apply NeedRow.mk); · exact ab_lookR)
              | ((with_reducible apply DrawG.mk (List.replicate 60 false)); · decide +kernel)
              | (with_reducible first | refine NewP.mk (fun id hid => ?_) | refine NilP.mk (fun e he => ?_))
              | (with_reducible first | exact trivial | exact And.intro rfl rfl)
              | ((with_reducible apply PreP.mk); · exact ab_asked)
              | refine Exists.intro _ (PreP.mk (bytesOf_lst _) ?_)
              | refine PreP.mk (lenD_lst _) ?_
              | (with_reducible first | refine PreP.mk ?_ ?_ | refine BothP.mk ?_ ?_)
              | ((with_reducible apply AncOr.anc); · decide +kernel)
              | with_reducible refine AncOr.go ?_)
            have hX : (setN H5 f.bid .gone).length = H5.length := setN_length _ _ _
            have hlen5 : f.bytes.length + (((b.map byteRow).map (·.map D.p))).length = (f.bytes ++ b).length := by simp
            have e5 : List.take f.bytes.length (List.drop 0 (f.bytes.map byteRowD)) ++ (b.map byteRow).map (·.map D.p) = (f.bytes ++ b).map byteRowD := by rw [List.drop_zero, List.take_of_length_le (by simp), byteRow_map, List.map_append]
            have e6 : setN (fs2.map rowF) (0 + (idxN fs2 name : Int).toNat) [.p (.str f.name), .own id5 1 0 (f.bytes ++ b).length none, i64 (f.kept : Nat)] = (fs2.set (idxN fs2 name) ⟨f.name, id5, f.bytes ++ b, f.kept⟩).map rowF := by
              rw [Int.toNat_natCast, Nat.zero_add]
              exact map_set_rowF fs2 (idxN fs2 name) ⟨f.name, id5, f.bytes ++ b, f.kept⟩
            have h5 := hI.setBytes hf (f.bytes ++ b) f.kept (X := setN H5 f.bid .gone) hX (fun j x hj hx => nth_setN_ne (fun e => hj e.symm) hx)
            have g5 := goes_bytes hI hf (f.bytes ++ b) f.kept
            rw [← hid5, ← e6, ← e5, ← hlen5] at h5 g5
            have h4 := set_pf (f' := ⟨f.name, id5, f.bytes ++ b, f.kept⟩) hnd2 hf (fun p => { p with bytes := p.bytes ++ b }) rfl
            exact ⟨rfl, _, ⟨fid2, _, h5, h4.trans (by rw [hfn, hpf]; rfl), rfl⟩, gI.trans g5⟩
    · have hc1 : ¬ (0 : Int) < ((b.map byteRow).length : Int) := by rw [hbl]; omega
      by_cases ha3 : m.quota < usedR fs
      · have hc3 : m.quota < (usedR fs : Int) := ha3
        repeat' (first
          | ((with_reducible apply Onw.mk); conv => whnf)
          | (with_reducible first | apply Br.tt | apply Br.ff | apply Br.no)
          | ((with_reducible apply Br.t); · assumption)
          | ((with_reducible apply Br.f); · assumption)
          | ((with_reducible apply Br.dt); · exact ab_known)
          | ((with_reducible apply Br.df); · exact ab_known)
          | (with_reducible first | refine Br.dec (fun hc => ?_) (fun hc => ?_) | refine Br.mk (fun hc => ?_) (fun hc => ?_))
          | (refine CallOK.go (hk56) (fun r2 H2 hr2 => ?_); obtain ⟨rfl, he2⟩ := hr2; rw [he2]; clear he2 H2)
          | (refine DetCall.go hk56 ?_)
          | ((with_reducible first | apply NeedRows.mk | apply NeedMap.mk | apply NeedIter.mk); · exact ab_look)
          | ((with_reducible apply NeedLen.mk); · first | assumption | rfl)
          | ((with_reducible apply NeedRow.mk); · exact ab_lookR)
          | ((with_reducible apply DrawG.mk (List.replicate 60 false)); · decide +kernel)
          | (with_reducible first | refine NewP.mk (fun id hid => ?_) | refine NilP.mk (fun e he => ?_))
          | (with_reducible first | exact trivial | exact And.intro rfl rfl)
          | ((with_reducible apply PreP.mk); · exact ab_asked)
          | refine Exists.intro _ (PreP.mk (bytesOf_lst _) ?_)
          | refine PreP.mk (lenD_lst _) ?_
          | (with_reducible first | refine PreP.mk ?_ ?_ | refine BothP.mk ?_ ?_)
          | ((with_reducible apply AncOr.anc); · decide +kernel)
          | with_reducible refine AncOr.go ?_)
        have hft := hFULL (by rw [hF]; simp only [Bool.or_eq_true, Bool.and_eq_true, Bool.not_eq_true', decide_eq_true_eq, decide_eq_false_iff_not]; omega)
        rw [hft.1, hft.2]
        exact ⟨rfl, _, hm0, g1⟩
      by_cases ha4 : idxN fs name < fs.length
      · rw [if_pos ha4]
        have hc4 : ¬ ((idxN fs name : Int) < 0) := by omega
        have hft := hOK (by rw [hF]; simp only [Bool.or_eq_false_iff, Bool.and_eq_false_iff, Bool.not_eq_false', decide_eq_true_eq, decide_eq_false_iff_not]; omega)
        rw [hft.1, hft.2]
        rw [decide_eq_true ha4] at hh
        rw [hh]
        obtain ⟨f, hf, hfn⟩ := idx_there ha4
        have hnth := rowF_nth hf
        have hp0 : (0 : Int) ≤ (idxN fs name : Int) ∧ (idxN fs name : Int) < (fs.length : Int) := by omega
        have hrow3 := h1.row
        unfold rRow at hrow3
        have hrows3 := h1.rows
        have hby := h1.bytes f (List.mem_of_getElem? hf)
        have hbd := h1.r_bid (List.mem_of_getElem? hf)
        have hbd1 : f.bid ≠ r := fun e => hbd.1 e.symm
        have hbd2 : f.bid ≠ fid := fun e => hbd.2 e.symm
        have hfl : f.bytes.length ≤ 10000000 := by have h5 := usedR_take fs hf; have h6 := usedR_le fs (idxN fs name + 1); omega
        repeat' (first
          | ((with_reducible apply Onw.mk); conv => whnf)
          | (with_reducible first | apply Br.tt | apply Br.ff | apply Br.no)
          | ((with_reducible apply Br.t); · assumption)
          | ((with_reducible apply Br.f); · assumption)
          | ((with_reducible apply Br.dt); · exact ab_known)
          | ((with_reducible apply Br.df); · exact ab_known)
          | (with_reducible first | refine Br.dec (fun hc => ?_) (fun hc => ?_) | refine Br.mk (fun hc => ?_) (fun hc => ?_))
          | (refine CallOK.go (hk56) (fun r2 H2 hr2 => ?_); obtain ⟨rfl, he2⟩ := hr2; rw [he2]; clear he2 H2)
          | (refine DetCall.go hk56 ?_)
          | (refine PreP.mk hp0 ?_)
          | ((with_reducible apply DrawG.mkN 18 [false, false, false, false, false, false, false, false, false, false, false, false, false, false, true, false, false, true]); · decide +kernel)
          | ((with_reducible first | apply NeedRows.mk | apply NeedMap.mk | apply NeedIter.mk); · exact ab_look)
          | ((with_reducible apply NeedLen.mk); · first | assumption | rfl)
          | ((with_reducible apply NeedRow.mk); · exact ab_lookR)
          | ((with_reducible apply DrawG.mk (List.replicate 60 false)); · decide +kernel)
          | (with_reducible first | refine NewP.mk (fun id hid => ?_) | refine NilP.mk (fun e he => ?_))
          | (with_reducible first | exact trivial | exact And.intro rfl rfl)
          | ((with_reducible apply PreP.mk); · exact ab_asked)
          | refine Exists.intro _ (PreP.mk (bytesOf_lst _) ?_)
          | refine PreP.mk (lenD_lst _) ?_
          | (with_reducible first | refine PreP.mk ?_ ?_ | refine BothP.mk ?_ ?_)
          | ((with_reducible apply AncOr.anc); · decide +kernel)
          | with_reducible refine AncOr.go ?_)
        · refine ⟨?_, ?_, fun q hq => ?_, fun q hq => ?_, by simp⟩
          · show (f.bytes.length + (((b.map byteRow).map (·.map D.p))).length) * 1 ≤ maxRoom
            unfold maxRoom; simp; omega
          · show f.bytes.length + (((b.map byteRow).map (·.map D.p))).length ≤ maxS
            unfold maxS; simp; omega
          · rw [byteRow_map] at hq
            exact byteRows_len b q hq
          · rw [byteRow_map] at hq
            obtain ⟨y, _, rfl⟩ := List.mem_map.1 hq
            intro d hd
            simp [byteRowD] at hd
            subst hd; rfl
        refine AppTo.new (fun id5 hid5 => ?_)
        repeat' (first
          | ((with_reducible apply Onw.mk); conv => whnf)
          | (with_reducible first | apply Br.tt | apply Br.ff | apply Br.no)
          | ((with_reducible apply Br.t); · assumption)
          | ((with_reducible apply Br.f); · assumption)
          | ((with_reducible apply Br.dt); · exact ab_known)
          | ((with_reducible apply Br.df); · exact ab_known)
          | (with_reducible first | refine Br.dec (fun hc => ?_) (fun hc => ?_) | refine Br.mk (fun hc => ?_) (fun hc => ?_))
          | ((with_reducible apply DrawG.mkN 18 [false, false, false, false, false, false, false, false, false, false, false, false, false, false, true, false, false, true]); · decide +kernel)
          | ((with_reducible first | apply NeedRows.mk | apply NeedMap.mk | apply NeedIter.mk); · exact ab_look)
          | ((with_reducible apply NeedLen.mk); · first | assumption | rfl)
          | ((with_reducible apply NeedRow.mk); · exact ab_lookR)
          | ((with_reducible apply DrawG.mk (List.replicate 60 false)); · decide +kernel)
          | (with_reducible first | refine NewP.mk (fun id hid => ?_) | refine NilP.mk (fun e he => ?_))
          | (with_reducible first | exact trivial | exact And.intro rfl rfl)
          | ((with_reducible apply PreP.mk); · exact ab_asked)
          | refine Exists.intro _ (PreP.mk (bytesOf_lst _) ?_)
          | refine PreP.mk (lenD_lst _) ?_
          | (with_reducible first | refine PreP.mk ?_ ?_ | refine BothP.mk ?_ ?_)
          | ((with_reducible apply AncOr.anc); · decide +kernel)
          | with_reducible refine AncOr.go ?_)
        have hX : (setN H3 f.bid .gone).length = H3.length := setN_length _ _ _
        have hlen5 : f.bytes.length + (((b.map byteRow).map (·.map D.p))).length = (f.bytes ++ b).length := by simp
        have e5 : List.take f.bytes.length (List.drop 0 (f.bytes.map byteRowD)) ++ (b.map byteRow).map (·.map D.p) = (f.bytes ++ b).map byteRowD := by rw [List.drop_zero, List.take_of_length_le (by simp), byteRow_map, List.map_append]
        have e6 : setN (fs.map rowF) (0 + (idxN fs name : Int).toNat) [.p (.str f.name), .own id5 1 0 (f.bytes ++ b).length none, i64 (f.kept : Nat)] = (fs.set (idxN fs name) ⟨f.name, id5, f.bytes ++ b, f.kept⟩).map rowF := by
          rw [Int.toNat_natCast, Nat.zero_add]
          exact map_set_rowF fs (idxN fs name) ⟨f.name, id5, f.bytes ++ b, f.kept⟩
        have h5 := h1.setBytes hf (f.bytes ++ b) f.kept (X := setN H3 f.bid .gone) hX (fun j x hj hx => nth_setN_ne (fun e => hj e.symm) hx)
        have g5 := goes_bytes h1 hf (f.bytes ++ b) f.kept
        rw [← hid5, ← e6, ← e5, ← hlen5] at h5 g5
        have h4 := set_pf (f' := ⟨f.name, id5, f.bytes ++ b, f.kept⟩) hnd hf (fun p => { p with bytes := p.bytes ++ b }) rfl
        exact ⟨rfl, _, ⟨fid, _, h5, h4.trans (by rw [hfn, hfs]; rfl), rfl⟩, g1.trans g5⟩
      · rw [if_neg ha4]
        by_cases ha5 : 50 ≤ fs.length
        · have hc5 : (50 : Int) ≤ (fs.length : Int) := by omega
          repeat' (first
            | ((with_reducible apply Onw.mk); conv => whnf)
            | (with_reducible first | apply Br.tt | apply Br.ff | apply Br.no)
            | ((with_reducible apply Br.t); · assumption)
            | ((with_reducible apply Br.f); · assumption)
            | ((with_reducible apply Br.dt); · exact ab_known)
            | ((with_reducible apply Br.df); · exact ab_known)
            | (with_reducible first | refine Br.dec (fun hc => ?_) (fun hc => ?_) | refine Br.mk (fun hc => ?_) (fun hc => ?_))
            | (refine CallOK.go (hk56) (fun r2 H2 hr2 => ?_); obtain ⟨rfl, he2⟩ := hr2; rw [he2]; clear he2 H2)
            | (refine DetCall.go hk56 ?_)
            | ((with_reducible first | apply NeedRows.mk | apply NeedMap.mk | apply NeedIter.mk); · exact ab_look)
            | ((with_reducible apply NeedLen.mk); · first | assumption | rfl)
            | ((with_reducible apply NeedRow.mk); · exact ab_lookR)
            | ((with_reducible apply DrawG.mk (List.replicate 60 false)); · decide +kernel)
            | (with_reducible first | refine NewP.mk (fun id hid => ?_) | refine NilP.mk (fun e he => ?_))
            | (with_reducible first | exact trivial | exact And.intro rfl rfl)
            | ((with_reducible apply PreP.mk); · exact ab_asked)
            | refine Exists.intro _ (PreP.mk (bytesOf_lst _) ?_)
            | refine PreP.mk (lenD_lst _) ?_
            | (with_reducible first | refine PreP.mk ?_ ?_ | refine BothP.mk ?_ ?_)
            | ((with_reducible apply AncOr.anc); · decide +kernel)
            | with_reducible refine AncOr.go ?_)
          have hft := hFULL (by rw [hF]; simp only [Bool.or_eq_true, Bool.and_eq_true, Bool.not_eq_true', decide_eq_true_eq, decide_eq_false_iff_not]; omega)
          rw [hft.1, hft.2]
          exact ⟨rfl, _, hm0, g1⟩
        · have hc5 : ¬ (50 : Int) ≤ (fs.length : Int) := by omega
          have hft := hOK (by rw [hF]; simp only [Bool.or_eq_false_iff, Bool.and_eq_false_iff, Bool.not_eq_false', decide_eq_true_eq, decide_eq_false_iff_not]; omega)
          rw [hft.1, hft.2]
          rw [decide_eq_false ha4] at hh
          rw [hh]
          repeat' (first
            | ((with_reducible apply Onw.mk); conv => whnf)
            | (with_reducible first | apply Br.tt | apply Br.ff | apply Br.no)
            | ((with_reducible apply Br.t); · assumption)
            | ((with_reducible apply Br.f); · assumption)
            | ((with_reducible apply Br.dt); · exact ab_known)
            | ((with_reducible apply Br.df); · exact ab_known)
            | (with_reducible first | refine Br.dec (fun hc => ?_) (fun hc => ?_) | refine Br.mk (fun hc => ?_) (fun hc => ?_))
            | (refine CallOK.go (hk56) (fun r2 H2 hr2 => ?_); obtain ⟨rfl, he2⟩ := hr2; rw [he2]; clear he2 H2)
            | (refine DetCall.go hk56 ?_)
            | ((with_reducible first | apply NeedRows.mk | apply NeedMap.mk | apply NeedIter.mk); · exact ab_look)
            | ((with_reducible apply NeedLen.mk); · first | assumption | rfl)
            | ((with_reducible apply NeedRow.mk); · exact ab_lookR)
            | ((with_reducible apply DrawG.mk (List.replicate 60 false)); · decide +kernel)
            | (with_reducible first | refine NewP.mk (fun id hid => ?_) | refine NilP.mk (fun e he => ?_))
            | (with_reducible first | exact trivial | exact And.intro rfl rfl)
            | ((with_reducible apply PreP.mk); · exact ab_asked)
            | refine Exists.intro _ (PreP.mk (bytesOf_lst _) ?_)
            | refine PreP.mk (lenD_lst _) ?_
            | (with_reducible first | refine PreP.mk ?_ ?_ | refine BothP.mk ?_ ?_)
            | ((with_reducible apply AncOr.anc); · decide +kernel)
            | with_reducible refine AncOr.go ?_)
          refine CallOK.go (CallOK.of_spec (s57n _ r fid fs _ _ _ _ name h1.row h1.rows h1.r_fid (by omega))) (fun r4 H4 hr => ?_)
          obtain ⟨rfl, rfl⟩ := hr
          repeat' (first
            | ((with_reducible apply Onw.mk); conv => whnf)
            | (with_reducible first | apply Br.tt | apply Br.ff | apply Br.no)
            | ((with_reducible apply Br.t); · assumption)
            | ((with_reducible apply Br.f); · assumption)
            | ((with_reducible apply Br.dt); · exact ab_known)
            | ((with_reducible apply Br.df); · exact ab_known)
            | (with_reducible first | refine Br.dec (fun hc => ?_) (fun hc => ?_) | refine Br.mk (fun hc => ?_) (fun hc => ?_))
            | ((with_reducible first | apply NeedRows.mk | apply NeedMap.mk | apply NeedIter.mk); · exact ab_look)
            | ((with_reducible apply NeedLen.mk); · first | assumption | rfl)
            | ((with_reducible apply NeedRow.mk); · exact ab_lookR)
            | ((with_reducible apply DrawG.mk (List.replicate 60 false)); · decide +kernel)
            | (with_reducible first | refine NewP.mk (fun id hid => ?_) | refine NilP.mk (fun e he => ?_))
            | (with_reducible first | exact trivial | exact And.intro rfl rfl)
            | ((with_reducible apply PreP.mk); · exact ab_asked)
            | refine Exists.intro _ (PreP.mk (bytesOf_lst _) ?_)
            | refine PreP.mk (lenD_lst _) ?_
            | (with_reducible first | refine PreP.mk ?_ ?_ | refine BothP.mk ?_ ?_)
            | ((with_reducible apply AncOr.anc); · decide +kernel)
            | with_reducible refine AncOr.go ?_)
          have hI := h1.insertNew name
          have hk : ((fs.map rowF).take (posN fs name)).length = posN fs name := by rw [List.length_take, List.length_map]; exact Nat.min_eq_left (posN_le fs name)
          refine CallOK.go (CallOK.virtCell 1 (H3.length + 1) (posN fs name) 1 (rs := insRows fs name [.p (.str name), .p .nil, i64 0]) (row := [.p (.str name), .p .nil, i64 0]) (nth_setN_ne (by have := nth_lt h1.row; omega) (nth_new (by rw [setN_length]; simp))) (by rw [nth_eq]; unfold insRows; rw [List.append_assoc, List.getElem?_append_right (by omega), hk, Nat.sub_self]; rfl) rfl (c55 hI (by rw [(insF_perm fs _).length_eq]; simp; omega) name)) (fun r5 H5 hr => ?_)
          obtain ⟨rfl, he5⟩ := hr
          have gI : Goes H (idsR r fid fs) H5 (idsR r (H3.length + 1) (insF fs ⟨name, (insHeap H3 r fid fs m.quota (rStep m).steps (rStep m).power (rStep m).off name [.p (.str name), .p .nil, i64 0]).length, [], 0⟩)) := by
            rw [he5]
            exact g1.trans (goes_insNew h1 name)
          rw [← he5] at hI
          clear he5
          generalize (insHeap H3 r fid fs m.quota (rStep m).steps (rStep m).power (rStep m).off name [.p (.str name), .p .nil, i64 0]).length = L at hI gI ⊢
          have hno : ∀ g ∈ fs, g.name ≠ name := fun g hg e => ha4 (List.findIdx_lt_length_of_exists ⟨g, hg, by simp [e]⟩)
          have hnd2 : ((insF fs ⟨name, L, [], 0⟩).map (·.name)).Nodup := by
            refine (((insF_perm fs ⟨name, L, [], 0⟩).map (·.name)).nodup_iff).2 (List.nodup_cons.2 ⟨fun e => ?_, hnd⟩)
            obtain ⟨g, hg, he⟩ := List.mem_map.1 e
            exact hno g hg he
          have hl2 : (insF fs ⟨name, L, [], 0⟩).length = fs.length + 1 := (insF_perm fs _).length_eq
          have ha6 : idxN (insF fs ⟨name, L, [], 0⟩) name < (insF fs ⟨name, L, [], 0⟩).length := List.findIdx_lt_length_of_exists ⟨⟨name, L, [], 0⟩, insF_mem.2 (.inl rfl), by simp⟩
          unfold atI
          rw [if_pos ha6]
          have hpf : (insF fs ⟨name, L, [], 0⟩).map rpf = insP ⟨name, [], 0⟩ m.files := by rw [← hfs]; exact insF_pf fs ⟨name, L, [], 0⟩
          obtain ⟨f, hf, hfn⟩ := idx_there ha6
          have hfm := List.mem_of_getElem? hf
          have hfe : f = ⟨name, L, [], 0⟩ := by
            rcases insF_mem.1 hfm with e | e
            · exact e
            · exact absurd hfn (hno f e)
          have hfb : f.bytes.length = 0 := by rw [hfe]; rfl
          clear hfe
          generalize insF fs ⟨name, L, [], 0⟩ = fs2 at *
          generalize H3.length + 1 = fid2 at *
          have hnth := rowF_nth hf
          have hp0 : (0 : Int) ≤ (idxN fs2 name : Int) ∧ (idxN fs2 name : Int) < (fs2.length : Int) := by omega
          have hrow3 := hI.row
          unfold rRow at hrow3
          have hrows3 := hI.rows
          have hby := hI.bytes f (List.mem_of_getElem? hf)
          have hbd := hI.r_bid (List.mem_of_getElem? hf)
          have hbd1 : f.bid ≠ r := fun e => hbd.1 e.symm
          have hbd2 : f.bid ≠ fid2 := fun e => hbd.2 e.symm
          have hfl : f.bytes.length ≤ 10000000 := by omega
          repeat' (first
            | ((with_reducible apply Onw.mk); conv => whnf)
            | (with_reducible first | apply Br.tt | apply Br.ff | apply Br.no)
            | ((with_reducible apply Br.t); · assumption)
            | ((with_reducible apply Br.f); · assumption)
            | ((with_reducible apply Br.dt); · exact ab_known)
            | ((with_reducible apply Br.df); · exact ab_known)
            | (with_reducible first | refine Br.dec (fun hc => ?_) (fun hc => ?_) | refine Br.mk (fun hc => ?_) (fun hc => ?_))
            | (refine CallOK.go (hk56) (fun r2 H2 hr2 => ?_); obtain ⟨rfl, he2⟩ := hr2; rw [he2]; clear he2 H2)
            | (refine DetCall.go hk56 ?_)
            | (refine PreP.mk hp0 ?_)
            | ((with_reducible apply DrawG.mkN 18 [false, false, false, false, false, false, false, false, false, false, false, false, false, false, true, false, false, true]); · decide +kernel)
            | ((with_reducible first | apply NeedRows.mk | apply NeedMap.mk | apply NeedIter.mk); · exact ab_look)
            | ((with_reducible apply NeedLen.mk); · first | assumption | rfl)
            | ((with_reducible apply NeedRow.mk); · exact ab_lookR)
            | ((with_reducible apply DrawG.mk (List.replicate 60 false)); · decide +kernel)
            | (with_reducible first | refine NewP.mk (fun id hid => ?_) | refine NilP.mk (fun e he => ?_))
            | (with_reducible first | exact trivial | exact And.intro rfl rfl)
            | ((with_reducible apply PreP.mk); · exact ab_asked)
            | refine Exists.intro _ (PreP.mk (bytesOf_lst _) ?_)
            | refine PreP.mk (lenD_lst _) ?_
            | (with_reducible first | refine PreP.mk ?_ ?_ | refine BothP.mk ?_ ?_)
            | ((with_reducible apply AncOr.anc); · decide +kernel)
            | with_reducible refine AncOr.go ?_)
          · refine ⟨?_, ?_, fun q hq => ?_, fun q hq => ?_, by simp⟩
            · show (f.bytes.length + (((b.map byteRow).map (·.map D.p))).length) * 1 ≤ maxRoom
              unfold maxRoom; simp; omega
            · show f.bytes.length + (((b.map byteRow).map (·.map D.p))).length ≤ maxS
              unfold maxS; simp; omega
            · rw [byteRow_map] at hq
              exact byteRows_len b q hq
            · rw [byteRow_map] at hq
              obtain ⟨y, _, rfl⟩ := List.mem_map.1 hq
              intro d hd
              simp [byteRowD] at hd
              subst hd; rfl
          refine AppTo.new (fun id5 hid5 => ?_)
          repeat' (first
            | ((with_reducible apply Onw.mk); conv => whnf)
            | (with_reducible first | apply Br.tt | apply Br.ff | apply Br.no)
            | ((with_reducible apply Br.t); · assumption)
            | ((with_reducible apply Br.f); · assumption)
            | ((with_reducible apply Br.dt); · exact ab_known)
            | ((with_reducible apply Br.df); · exact ab_known)
            | (with_reducible first | refine Br.dec (fun hc => ?_) (fun hc => ?_) | refine Br.mk (fun hc => ?_) (fun hc => ?_))
            | ((with_reducible apply DrawG.mkN 18 [false, false, false, false, false, false, false, false, false, false, false, false, false, false, true, false, false, true]); · decide +kernel)
            | ((with_reducible first | apply NeedRows.mk | apply NeedMap.mk | apply NeedIter.mk); · exact ab_look)
            | ((with_reducible apply NeedLen.mk); · first | assumption | rfl)
            | ((with_reducible apply NeedRow.mk); · exact ab_lookR)
            | ((with_reducible apply DrawG.mk (List.replicate 60 false)); · decide +kernel)
            | (with_reducible first | refine NewP.mk (fun id hid => ?_) | refine NilP.mk (fun e he => ?_))
            | (with_reducible first | exact trivial | exact And.intro rfl rfl)
            | ((with_reducible apply PreP.mk); · exact ab_asked)
            | refine Exists.intro _ (PreP.mk (bytesOf_lst _) ?_)
            | refine PreP.mk (lenD_lst _) ?_
            | (with_reducible first | refine PreP.mk ?_ ?_ | refine BothP.mk ?_ ?_)
            | ((with_reducible apply AncOr.anc); · decide +kernel)
            | with_reducible refine AncOr.go ?_)
          have hX : (setN H5 f.bid .gone).length = H5.length := setN_length _ _ _
          have hlen5 : f.bytes.length + (((b.map byteRow).map (·.map D.p))).length = (f.bytes ++ b).length := by simp
          have e5 : List.take f.bytes.length (List.drop 0 (f.bytes.map byteRowD)) ++ (b.map byteRow).map (·.map D.p) = (f.bytes ++ b).map byteRowD := by rw [List.drop_zero, List.take_of_length_le (by simp), byteRow_map, List.map_append]
          have e6 : setN (fs2.map rowF) (0 + (idxN fs2 name : Int).toNat) [.p (.str f.name), .own id5 1 0 (f.bytes ++ b).length none, i64 (f.kept : Nat)] = (fs2.set (idxN fs2 name) ⟨f.name, id5, f.bytes ++ b, f.kept⟩).map rowF := by
            rw [Int.toNat_natCast, Nat.zero_add]
            exact map_set_rowF fs2 (idxN fs2 name) ⟨f.name, id5, f.bytes ++ b, f.kept⟩
          have h5 := hI.setBytes hf (f.bytes ++ b) f.kept (X := setN H5 f.bid .gone) hX (fun j x hj hx => nth_setN_ne (fun e => hj e.symm) hx)
          have g5 := goes_bytes hI hf (f.bytes ++ b) f.kept
          rw [← hid5, ← e6, ← e5, ← hlen5] at h5 g5
          have h4 := set_pf (f' := ⟨f.name, id5, f.bytes ++ b, f.kept⟩) hnd2 hf (fun p => { p with bytes := p.bytes ++ b }) rfl
          exact ⟨rfl, _, ⟨fid2, _, h5, h4.trans (by rw [hfn, hpf]; rfl), rfl⟩, gI.trans g5⟩
end Go.Proofs.Ytanknokhbfijdaa
