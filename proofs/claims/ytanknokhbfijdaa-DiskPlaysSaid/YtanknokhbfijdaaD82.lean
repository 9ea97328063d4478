/- What functions of the disk, and of the laws over it, do. Conditions: those that each theorem names. -/
import Derived.Test.YtanknokhbfijdaaD81
import Derived.Test.YtanknokhbfijdaaD15
set_option linter.unusedVariables false
set_option linter.unusedSimpArgs false
namespace Go.Proofs.Ytanknokhbfijdaa
open Go.Ab
set_option maxRecDepth 100000
set_option maxHeartbeats 1000000
attribute [local irreducible] Run CallOK DetCall Br PreP BothP AncOr Onw NeedRows NeedMap NeedRow NeedLen NilP NeedIter RoundP EntryP EqP OptP NewP NewSlice NewMade AppTo DrawG anc drawB
theorem c59 {H : Heap} {r fid : Nat} {fs : List RFl} {q s p : Int} {o : Bool} (h : RAt H r fid fs q s p o) (hl : fs.length ≤ 100000) :
    CallOK Try.prog 59 [.ptr r 0 0] H (fun res H' => res = .p (.lst ((bif o then [] else fs.map (·.name)).map strRow)) ∧ H' = H) := by
  have h1 : CallOK Try.prog 59 [.ptr r 0 0] H (fun res H' => H' = H ∧ ∃ ps, res = .p (.lst ps) ∧ ps = (bif o then [] else fs.map (·.name)).map strRow) := by
    refine CallOK.frozen ((CallOK.of_spec (s59 H r fid fs q s p o h.row h.rows hl)).mono (fun res H' hr => ?_))
    obtain ⟨id, hO, rfl⟩ := hr
    refine ⟨hO.2.1, _, rfl, .inl ⟨id, 1, 0, none, _, hO.1, rfl, hO.2.2, ?_, fun q hq => ?_⟩⟩
    · rw [List.drop_zero, List.take_of_length_le (by simp)]
    · obtain ⟨x, _, rfl⟩ := List.mem_map.1 hq; rfl
  exact h1.mono fun res H' hr => by obtain ⟨e, ps, e2, e3⟩ := hr; exact ⟨by rw [e2, e3], e⟩
theorem c60 {H : Heap} {r fid : Nat} {fs : List RFl} {q s p : Int} {o : Bool} (h : RAt H r fid fs q s p o) (hl : fs.length ≤ 100000) (name : List UInt8) :
    CallOK Try.prog 60 [.ptr r 0 0, .p (.str name)] H (fun res H' => res = readR0 fs o name ∧ H' = H) :=
  CallOK.of_spec (s60 H r fid fs q s p o name h.row h.rows hl)
theorem find_idx {fs : List RFl} {l : List PF} (h : fs.map rpf = l) (name : List UInt8) : (l.find? fun p => decide (p.name = name)) = (fs[idxN fs name]?).map rpf := by
  subst h
  unfold idxN
  induction fs with
  | nil => rfl
  | cons f fs ih =>
    rw [List.map_cons, List.find?_cons, List.findIdx_cons]
    by_cases e : f.name = name
    · have e2 : (rpf f).name = name := e
      simp [e, e2]
    · have e2 : ¬ (rpf f).name = name := e
      simp only [e, e2, decide_false, cond_false, List.getElem?_cons_succ]
      exact ih
theorem bytes_own (l : List UInt8) : bytesOfD (List.take l.length (List.drop 0 (l.map byteRowD))) = some l := by
  rw [List.drop_zero, List.take_of_length_le (by simp)]
  exact bytesOf_rows l
theorem s33 (H : Heap) (d r : Nat) (m : Ds) (rr : Rf) (idsd idsr : List Nat) (name : List UInt8) (hd : DiskIs H d m idsd) (hr : RIs H r rr idsr) (hS : SimD m rr) (okd : DsOK m) (okr : RfOK rr) :
    Ab.Spec Try.prog 33 [.ptr d 0 0, .ptr r 0 0, .p (.str name)] H (fun res H' => res = boolD true ∧ H' = H) := by
  obtain ⟨fid, fs, h, hfs, rfl⟩ := hr
  have hl : fs.length ≤ 1000 := by rw [← len_eq hfs]; exact okr.n
  have hu : usedR fs ≤ 10000000 := by rw [← used_eq hfs]; exact okr.u
  have hus : usedM m = usedR fs := by rw [← hS.used, used_eq hfs]
  have hnm : namesM m = fs.map (·.name) := by rw [hS.names, name_eq hfs]
  rw [hS.s, hS.q] at h
  have k20 := a20 hd okd
  rw [hus] at k20
  have k56 := c56 h (by omega) (by omega)
  have k24 := a24 hd
  have k59 := c59 h (by omega)
  have k23 := a23 hd okd
  have k19 := fun n => a19 hd n
  have k60 := fun n => c60 h (by omega) n
  have hff : ∀ n, findM m n = (fs[idxN fs n]?).map rpf := fun n => by rw [← hS.find, find_idx hfs]
  unfold listM at k23
  rw [hnm, ← hS.o] at k23
  unfold readM at k19
  unfold readR0 at k60
  rw [← hS.o] at k19
  simp only [hff] at k19
  have hrow := h.row
  unfold rRow at hrow
  refine Ab.Spec.walk hm Try.func33 (by kernel_rfl) 400 ?_
  cases ho : rr.off with
  | true =>
    rw [ho] at k19 k60 k23 k59
    simp only [cond_true] at k19 k60 k23 k59
    repeat' (first
      | ((with_reducible apply Onw.mk); conv => whnf)
      | (with_reducible first | apply Br.tt | apply Br.ff | apply Br.no)
      | ((with_reducible apply Br.t); · assumption)
      | ((with_reducible apply Br.f); · assumption)
      | ((with_reducible apply Br.dt); · exact ab_known)
      | ((with_reducible apply Br.df); · exact ab_known)
      | (with_reducible first | refine Br.dec (fun hc => ?_) (fun hc => ?_) | refine Br.mk (fun hc => ?_) (fun hc => ?_))
      | (refine CallOK.go (k23) (fun r2 H2 hr2 => ?_); obtain ⟨rfl, he2⟩ := hr2; rw [he2]; clear he2 H2)
      | (refine CallOK.go (k59) (fun r2 H2 hr2 => ?_); obtain ⟨rfl, he2⟩ := hr2; rw [he2]; clear he2 H2)
      | (refine CallOK.go (k20) (fun r2 H2 hr2 => ?_); obtain ⟨rfl, he2⟩ := hr2; rw [he2]; clear he2 H2)
      | (refine CallOK.go (k56) (fun r2 H2 hr2 => ?_); obtain ⟨rfl, he2⟩ := hr2; rw [he2]; clear he2 H2)
      | (refine CallOK.go (k24) (fun r2 H2 hr2 => ?_); obtain ⟨rfl, he2⟩ := hr2; rw [he2]; clear he2 H2)
      | (refine DetCall.go k23 ?_)
      | (refine DetCall.go k59 ?_)
      | (refine DetCall.go k20 ?_)
      | (refine DetCall.go k56 ?_)
      | (refine DetCall.go k24 ?_)
      | ((with_reducible first | apply NeedRows.mk | apply NeedMap.mk | apply NeedIter.mk); · exact ab_look)
      | ((with_reducible apply NeedLen.mk); · first | assumption | rfl)
      | ((with_reducible apply NeedRow.mk); · exact ab_lookR)
      | ((with_reducible apply DrawG.mk (List.replicate 60 false)); · decide +kernel)
      | (with_reducible first | refine NewP.mk (fun id hid => ?_) | refine NilP.mk (fun e he => ?_))
      | (with_reducible first | exact trivial | exact And.intro rfl rfl)
      | ((with_reducible apply PreP.mk); · exact ab_asked)
      | refine Exists.intro _ (PreP.mk (bytesOf_lst _) ?_)
      | refine PreP.mk (lenD_lst _) ?_
      | (with_reducible first | refine PreP.mk ?_ ?_ | refine BothP.mk ?_ ?_)
      | ((with_reducible apply AncOr.anc); · decide +kernel)
      | with_reducible refine AncOr.go ?_)
    refine Run.walk hm Try.func33 200 ?_
    have k19' := k19 name
    have k60' := k60 name
    repeat' (first
      | ((with_reducible apply Onw.mk); conv => whnf)
      | (with_reducible first | apply Br.tt | apply Br.ff | apply Br.no)
      | ((with_reducible apply Br.t); · assumption)
      | ((with_reducible apply Br.f); · assumption)
      | ((with_reducible apply Br.dt); · exact ab_known)
      | ((with_reducible apply Br.df); · exact ab_known)
      | (with_reducible first | refine Br.dec (fun hc => ?_) (fun hc => ?_) | refine Br.mk (fun hc => ?_) (fun hc => ?_))
      | (refine CallOK.go (k19') (fun r2 H2 hr2 => ?_); obtain ⟨rfl, he2⟩ := hr2; rw [he2]; clear he2 H2)
      | (refine CallOK.go (k60') (fun r2 H2 hr2 => ?_); obtain ⟨rfl, he2⟩ := hr2; rw [he2]; clear he2 H2)
      | (refine DetCall.go k19' ?_)
      | (refine DetCall.go k60' ?_)
      | (refine Exists.intro [] (PreP.mk rfl ?_))
      | ((with_reducible first | apply NeedRows.mk | apply NeedMap.mk | apply NeedIter.mk); · exact ab_look)
      | ((with_reducible apply NeedLen.mk); · first | assumption | rfl)
      | ((with_reducible apply NeedRow.mk); · exact ab_lookR)
      | ((with_reducible apply DrawG.mk (List.replicate 60 false)); · decide +kernel)
      | (with_reducible first | refine NewP.mk (fun id hid => ?_) | refine NilP.mk (fun e he => ?_))
      | (with_reducible first | exact trivial | exact And.intro rfl rfl)
      | ((with_reducible apply PreP.mk); · exact ab_asked)
      | refine Exists.intro _ (PreP.mk (bytesOf_lst _) ?_)
      | refine PreP.mk (lenD_lst _) ?_
      | (with_reducible first | refine PreP.mk ?_ ?_ | refine BothP.mk ?_ ?_)
      | ((with_reducible apply AncOr.anc); · decide +kernel)
      | with_reducible refine AncOr.go ?_)
    all_goals first
      | exact ⟨rfl, rfl⟩
  | false =>
    rw [ho] at k19 k60 k23 k59
    simp only [cond_false] at k19 k60 k23 k59
    repeat' (first
      | ((with_reducible apply Onw.mk); conv => whnf)
      | (with_reducible first | apply Br.tt | apply Br.ff | apply Br.no)
      | ((with_reducible apply Br.t); · assumption)
      | ((with_reducible apply Br.f); · assumption)
      | ((with_reducible apply Br.dt); · exact ab_known)
      | ((with_reducible apply Br.df); · exact ab_known)
      | (with_reducible first | refine Br.dec (fun hc => ?_) (fun hc => ?_) | refine Br.mk (fun hc => ?_) (fun hc => ?_))
      | (refine CallOK.go (k23) (fun r2 H2 hr2 => ?_); obtain ⟨rfl, he2⟩ := hr2; rw [he2]; clear he2 H2)
      | (refine CallOK.go (k59) (fun r2 H2 hr2 => ?_); obtain ⟨rfl, he2⟩ := hr2; rw [he2]; clear he2 H2)
      | (refine CallOK.go (k20) (fun r2 H2 hr2 => ?_); obtain ⟨rfl, he2⟩ := hr2; rw [he2]; clear he2 H2)
      | (refine CallOK.go (k56) (fun r2 H2 hr2 => ?_); obtain ⟨rfl, he2⟩ := hr2; rw [he2]; clear he2 H2)
      | (refine CallOK.go (k24) (fun r2 H2 hr2 => ?_); obtain ⟨rfl, he2⟩ := hr2; rw [he2]; clear he2 H2)
      | (refine DetCall.go k23 ?_)
      | (refine DetCall.go k59 ?_)
      | (refine DetCall.go k20 ?_)
      | (refine DetCall.go k56 ?_)
      | (refine DetCall.go k24 ?_)
      | ((with_reducible first | apply NeedRows.mk | apply NeedMap.mk | apply NeedIter.mk); · exact ab_look)
      | ((with_reducible apply NeedLen.mk); · first | assumption | rfl)
      | ((with_reducible apply NeedRow.mk); · exact ab_lookR)
      | ((with_reducible apply DrawG.mk (List.replicate 60 false)); · decide +kernel)
      | (with_reducible first | refine NewP.mk (fun id hid => ?_) | refine NilP.mk (fun e he => ?_))
      | (with_reducible first | exact trivial | exact And.intro rfl rfl)
      | ((with_reducible apply PreP.mk); · exact ab_asked)
      | refine Exists.intro _ (PreP.mk (bytesOf_lst _) ?_)
      | refine PreP.mk (lenD_lst _) ?_
      | (with_reducible first | refine PreP.mk ?_ ?_ | refine BothP.mk ?_ ?_)
      | ((with_reducible apply AncOr.anc); · decide +kernel)
      | with_reducible refine AncOr.go ?_)
    have hlm : (((fs.map (·.name)).map strRow).length : Int) = fs.length := by simp
    refine Run.keep [(0, .ptr d 0 0), (1, .ptr r 0 0), (2, .p (.str name)), (7, .p (.lst ((fs.map (·.name)).map strRow))), (8, .p (.lst ((fs.map (·.name)).map strRow))), (9, i64 (0 : Nat))] ⟨rfl, rfl, rfl, rfl, rfl, rfl, trivial⟩ ?_
    refine Run.loop (fun (i : Nat) => [(0, .ptr d 0 0), (1, .ptr r 0 0), (2, .p (.str name)), (7, .p (.lst ((fs.map (·.name)).map strRow))), (8, .p (.lst ((fs.map (·.name)).map strRow))), (9, i64 i)]) (fun _ => H) (fun i => i ≤ fs.length) (fun i => fs.length - i) ?_ 0 (Nat.zero_le _)
    rintro i hi ih
    refine Run.walk hm Try.func33 200 ?_
    rcases Nat.lt_or_ge i fs.length with hil | hil
    · have hc1 : (i : Int) < (((fs.map (·.name)).map strRow).length : Int) := by rw [hlm]; omega
      obtain ⟨n, hn⟩ : ∃ n, (fs.map (·.name))[i]? = some n := ⟨_, List.getElem?_eq_getElem (by simpa using hil)⟩
      have hri : Ab.rowAt ((fs.map (·.name)).map strRow) (i : Int).toNat = strRow n := rowAt_map hn
      have hrp : (0 : Int) ≤ (i : Int) ∧ (i : Int) < (((fs.map (·.name)).map strRow).length : Int) ∧ (Ab.rowAt ((fs.map (·.name)).map strRow) (i : Int).toNat).length = 1 := ⟨by omega, hc1, by rw [hri]; rfl⟩
      have hlt : idxN fs n < fs.length := by
        obtain ⟨f, hf, hfn⟩ := List.mem_map.1 (List.mem_of_getElem? hn)
        exact List.findIdx_lt_length_of_exists ⟨f, hf, by simp [hfn]⟩
      obtain ⟨f, hf, _⟩ := idx_there hlt
      have k19' := k19 n
      have k60' := k60 n
      rw [hf] at k19' k60'
      simp only [Option.map_some] at k19' k60'
      have hby := h.bytes f (List.mem_of_getElem? hf)
      repeat' (first
        | ((with_reducible apply Onw.mk); conv => whnf)
        | (with_reducible first | apply Br.tt | apply Br.ff | apply Br.no)
        | ((with_reducible apply Br.t); · assumption)
        | ((with_reducible apply Br.f); · assumption)
        | ((with_reducible apply Br.dt); · exact ab_known)
        | ((with_reducible apply Br.df); · exact ab_known)
        | (with_reducible first | refine Br.dec (fun hc => ?_) (fun hc => ?_) | refine Br.mk (fun hc => ?_) (fun hc => ?_))
        | (refine PreP.mk hrp ?_)
        | (refine EqP.mk hri ?_)
        | (refine CallOK.go (k19') (fun r2 H2 hr2 => ?_); obtain ⟨rfl, he2⟩ := hr2; rw [he2]; clear he2 H2)
        | (refine CallOK.go (k60') (fun r2 H2 hr2 => ?_); obtain ⟨rfl, he2⟩ := hr2; rw [he2]; clear he2 H2)
        | (refine DetCall.go k19' ?_)
        | (refine DetCall.go k60' ?_)
        | (refine Exists.intro _ (PreP.mk (bytes_own f.bytes) ?_))
        | ((with_reducible first | apply NeedRows.mk | apply NeedMap.mk | apply NeedIter.mk); · exact ab_look)
        | ((with_reducible apply NeedLen.mk); · first | assumption | rfl)
        | ((with_reducible apply NeedRow.mk); · exact ab_lookR)
        | ((with_reducible apply DrawG.mk (List.replicate 60 false)); · decide +kernel)
        | (with_reducible first | refine NewP.mk (fun id hid => ?_) | refine NilP.mk (fun e he => ?_))
        | (with_reducible first | exact trivial | exact And.intro rfl rfl)
        | ((with_reducible apply PreP.mk); · exact ab_asked)
        | refine Exists.intro _ (PreP.mk (bytesOf_lst _) ?_)
        | refine PreP.mk (lenD_lst _) ?_
        | (with_reducible first | refine PreP.mk ?_ ?_ | refine BothP.mk ?_ ?_)
        | ((with_reducible apply AncOr.anc); · decide +kernel)
        | with_reducible refine AncOr.go ?_)
      all_goals first
        | (refine Run.keep _ ?_ (ih (i + 1) (by omega) (by omega)); exact ⟨rfl, rfl, rfl, rfl, rfl, slot64 (by omega) (by omega) (by omega), trivial⟩)
        | (show some f.bytes.length = some (List.take f.bytes.length (List.drop 0 (f.bytes.map byteRowD))).length; simp; done)
        | exact absurd rfl hc
    · have hc1 : ¬ (i : Int) < (((fs.map (·.name)).map strRow).length : Int) := by rw [hlm]; omega
      have k19' := k19 name
      have k60' := k60 name
      cases hf : fs[idxN fs name]? with
      | none =>
        rw [hf] at k19' k60'
        simp only [Option.map_none] at k19' k60'
        repeat' (first
          | ((with_reducible apply Onw.mk); conv => whnf)
          | (with_reducible first | apply Br.tt | apply Br.ff | apply Br.no)
          | ((with_reducible apply Br.t); · assumption)
          | ((with_reducible apply Br.f); · assumption)
          | ((with_reducible apply Br.dt); · exact ab_known)
          | ((with_reducible apply Br.df); · exact ab_known)
          | (with_reducible first | refine Br.dec (fun hc => ?_) (fun hc => ?_) | refine Br.mk (fun hc => ?_) (fun hc => ?_))
          | (refine CallOK.go (k19') (fun r2 H2 hr2 => ?_); obtain ⟨rfl, he2⟩ := hr2; rw [he2]; clear he2 H2)
          | (refine CallOK.go (k60') (fun r2 H2 hr2 => ?_); obtain ⟨rfl, he2⟩ := hr2; rw [he2]; clear he2 H2)
          | (refine DetCall.go k19' ?_)
          | (refine DetCall.go k60' ?_)
          | (refine Exists.intro [] (PreP.mk rfl ?_))
          | ((with_reducible first | apply NeedRows.mk | apply NeedMap.mk | apply NeedIter.mk); · exact ab_look)
          | ((with_reducible apply NeedLen.mk); · first | assumption | rfl)
          | ((with_reducible apply NeedRow.mk); · exact ab_lookR)
          | ((with_reducible apply DrawG.mk (List.replicate 60 false)); · decide +kernel)
          | (with_reducible first | refine NewP.mk (fun id hid => ?_) | refine NilP.mk (fun e he => ?_))
          | (with_reducible first | exact trivial | exact And.intro rfl rfl)
          | ((with_reducible apply PreP.mk); · exact ab_asked)
          | refine Exists.intro _ (PreP.mk (bytesOf_lst _) ?_)
          | refine PreP.mk (lenD_lst _) ?_
          | (with_reducible first | refine PreP.mk ?_ ?_ | refine BothP.mk ?_ ?_)
          | ((with_reducible apply AncOr.anc); · decide +kernel)
          | with_reducible refine AncOr.go ?_)
        all_goals first
          | exact ⟨rfl, rfl⟩
      | some f =>
        rw [hf] at k19' k60'
        simp only [Option.map_some] at k19' k60'
        have hby := h.bytes f (List.mem_of_getElem? hf)
        repeat' (first
          | ((with_reducible apply Onw.mk); conv => whnf)
          | (with_reducible first | apply Br.tt | apply Br.ff | apply Br.no)
          | ((with_reducible apply Br.t); · assumption)
          | ((with_reducible apply Br.f); · assumption)
          | ((with_reducible apply Br.dt); · exact ab_known)
          | ((with_reducible apply Br.df); · exact ab_known)
          | (with_reducible first | refine Br.dec (fun hc => ?_) (fun hc => ?_) | refine Br.mk (fun hc => ?_) (fun hc => ?_))
          | (refine CallOK.go (k19') (fun r2 H2 hr2 => ?_); obtain ⟨rfl, he2⟩ := hr2; rw [he2]; clear he2 H2)
          | (refine CallOK.go (k60') (fun r2 H2 hr2 => ?_); obtain ⟨rfl, he2⟩ := hr2; rw [he2]; clear he2 H2)
          | (refine DetCall.go k19' ?_)
          | (refine DetCall.go k60' ?_)
          | (refine Exists.intro _ (PreP.mk (bytes_own f.bytes) ?_))
          | ((with_reducible first | apply NeedRows.mk | apply NeedMap.mk | apply NeedIter.mk); · exact ab_look)
          | ((with_reducible apply NeedLen.mk); · first | assumption | rfl)
          | ((with_reducible apply NeedRow.mk); · exact ab_lookR)
          | ((with_reducible apply DrawG.mk (List.replicate 60 false)); · decide +kernel)
          | (with_reducible first | refine NewP.mk (fun id hid => ?_) | refine NilP.mk (fun e he => ?_))
          | (with_reducible first | exact trivial | exact And.intro rfl rfl)
          | ((with_reducible apply PreP.mk); · exact ab_asked)
          | refine Exists.intro _ (PreP.mk (bytesOf_lst _) ?_)
          | refine PreP.mk (lenD_lst _) ?_
          | (with_reducible first | refine PreP.mk ?_ ?_ | refine BothP.mk ?_ ?_)
          | ((with_reducible apply AncOr.anc); · decide +kernel)
          | with_reducible refine AncOr.go ?_)
        all_goals first
          | (show some f.bytes.length = some (List.take f.bytes.length (List.drop 0 (f.bytes.map byteRowD))).length; simp; done)
          | exact ⟨by simp [mkRes, rpf], rfl⟩
end Go.Proofs.Ytanknokhbfijdaa
