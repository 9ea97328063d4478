/- What functions of the disk, and of the laws over it, do. Conditions: those that each theorem names. -/
import Derived.Test.YtanknokhbfijdaaD79
set_option linter.unusedVariables false
set_option linter.unusedSimpArgs false
namespace Go.Proofs.Ytanknokhbfijdaa
open Go.Ab
set_option maxRecDepth 100000
set_option maxHeartbeats 1000000
attribute [local irreducible] Run CallOK DetCall Br PreP BothP AncOr Onw NeedRows NeedMap NeedRow NeedLen NilP NeedIter RoundP EntryP EqP OptP NewP NewSlice NewMade AppTo DrawG anc drawB
/-- Rename. -/
theorem b29 {H : Heap} {r : Nat} {m : Rf} {ids : List Nat} (h : RIs H r m ids) (ok : RfOK m) (a b : List UInt8) (hb : b.length ≤ 1000) :
    CallOK Try.prog 29 [.ptr r 0 0, .p (.str a), .p (.str b)] H (fun res H' => res = i64 (rRenameE m a b) ∧ ∃ ids', RIs H' r (rRenameM m a b) ids' ∧ Goes H ids H' ids') := by
  obtain ⟨fid, fs, h, hfs, rfl⟩ := h
  have hl : fs.length ≤ 1000 := by rw [← len_eq hfs]; exact ok.n
  have hu : usedR fs ≤ 10000000 := by rw [← used_eq hfs]; exact ok.u
  have hnd : (fs.map (·.name)).Nodup := by rw [← name_eq hfs]; exact ok.nd
  refine CallOK.of_spec ?_
  refine Ab.Spec.walk hm Try.func29 (by kernel_rfl) 300 ?_
  repeat' (first
    | ((with_reducible apply Onw.mk); conv => whnf)
    | (with_reducible first | apply Br.tt | apply Br.ff | apply Br.no)
    | ((with_reducible apply Br.t); · assumption)
    | ((with_reducible apply Br.f); · assumption)
    | ((with_reducible apply Br.dt); · exact ab_known)
    | ((with_reducible apply Br.df); · exact ab_known)
    | (with_reducible first | refine Br.dec (fun hc => ?_) (fun hc => ?_) | refine Br.mk (fun hc => ?_) (fun hc => ?_))
    | ((with_reducible first | apply NeedRows.mk | apply NeedMap.mk | apply NeedIter.mk); · exact ab_look)
    | ((with_reducible apply NeedLen.mk); · first | assumption | rfl)
    | ((with_reducible apply NeedRow.mk); · exact ab_lookR)
    | ((with_reducible apply DrawG.mk (List.replicate 60 false)); · decide +kernel)
    | (with_reducible first | refine NewP.mk (fun id hid => ?_) | refine NilP.mk (fun e he => ?_))
    | (with_reducible first | exact trivial | exact And.intro rfl rfl)
    | ((with_reducible apply PreP.mk); · exact ab_asked)
    | refine Exists.intro _ (PreP.mk (bytesOf_lst _) ?_)
    | refine PreP.mk (lenD_lst _) ?_
    | (with_reducible first | refine PreP.mk ?_ ?_ | refine BothP.mk ?_ ?_)
    | ((with_reducible apply AncOr.anc); · decide +kernel)
    | with_reducible refine AncOr.go ?_)
  refine CallOK.go (c53 h ok) (fun r2 H1 hr => ?_)
  obtain ⟨rfl, he1⟩ := hr
  have h1 := h.setRow (rStep m).steps (rStep m).power (rStep m).off
  have g1 : Goes H (idsR r fid fs) (setN H r (rRow fid fs.length m.quota (rStep m).steps (rStep m).power (rStep m).off)) (idsR r fid fs) := Goes.set (List.mem_cons_self ..)
  rw [← he1] at h1 g1
  clear he1
  have hm0 : RIs H1 r (rStep m) (idsR r fid fs) := ⟨fid, fs, h1, hfs, rfl⟩
  cases hoff : (rStep m).off with
  | true =>
    repeat' (first
      | ((with_reducible apply Onw.mk); conv => whnf)
      | (with_reducible first | apply Br.tt | apply Br.ff | apply Br.no)
      | ((with_reducible apply Br.t); · assumption)
      | ((with_reducible apply Br.f); · assumption)
      | ((with_reducible apply Br.dt); · exact ab_known)
      | ((with_reducible apply Br.df); · exact ab_known)
      | (with_reducible first | refine Br.dec (fun hc => ?_) (fun hc => ?_) | refine Br.mk (fun hc => ?_) (fun hc => ?_))
      | ((with_reducible first | apply NeedRows.mk | apply NeedMap.mk | apply NeedIter.mk); · exact ab_look)
      | ((with_reducible apply NeedLen.mk); · first | assumption | rfl)
      | ((with_reducible apply NeedRow.mk); · exact ab_lookR)
      | ((with_reducible apply DrawG.mk (List.replicate 60 false)); · decide +kernel)
      | (with_reducible first | refine NewP.mk (fun id hid => ?_) | refine NilP.mk (fun e he => ?_))
      | (with_reducible first | exact trivial | exact And.intro rfl rfl)
      | ((with_reducible apply PreP.mk); · exact ab_asked)
      | refine Exists.intro _ (PreP.mk (bytesOf_lst _) ?_)
      | refine PreP.mk (lenD_lst _) ?_
      | (with_reducible first | refine PreP.mk ?_ ?_ | refine BothP.mk ?_ ?_)
      | ((with_reducible apply AncOr.anc); · decide +kernel)
      | with_reducible refine AncOr.go ?_)
    all_goals exact ⟨by unfold rRenameE; rw [hoff]; rfl, _, (by unfold rRenameM rRenameE; rw [hoff]; exact hm0), g1⟩
  | false =>
    repeat' (first
      | ((with_reducible apply Onw.mk); conv => whnf)
      | (with_reducible first | apply Br.tt | apply Br.ff | apply Br.no)
      | ((with_reducible apply Br.t); · assumption)
      | ((with_reducible apply Br.f); · assumption)
      | ((with_reducible apply Br.dt); · exact ab_known)
      | ((with_reducible apply Br.df); · exact ab_known)
      | (with_reducible first | refine Br.dec (fun hc => ?_) (fun hc => ?_) | refine Br.mk (fun hc => ?_) (fun hc => ?_))
      | ((with_reducible first | apply NeedRows.mk | apply NeedMap.mk | apply NeedIter.mk); · exact ab_look)
      | ((with_reducible apply NeedLen.mk); · first | assumption | rfl)
      | ((with_reducible apply NeedRow.mk); · exact ab_lookR)
      | ((with_reducible apply DrawG.mk (List.replicate 60 false)); · decide +kernel)
      | (with_reducible first | refine NewP.mk (fun id hid => ?_) | refine NilP.mk (fun e he => ?_))
      | (with_reducible first | exact trivial | exact And.intro rfl rfl)
      | ((with_reducible apply PreP.mk); · exact ab_asked)
      | refine Exists.intro _ (PreP.mk (bytesOf_lst _) ?_)
      | refine PreP.mk (lenD_lst _) ?_
      | (with_reducible first | refine PreP.mk ?_ ?_ | refine BothP.mk ?_ ?_)
      | ((with_reducible apply AncOr.anc); · decide +kernel)
      | with_reducible refine AncOr.go ?_)
    refine CallOK.go (c55 h1 (by omega) a) (fun r3 H2 hr => ?_)
    obtain ⟨rfl, rfl⟩ := hr
    have hh := has_idx hfs a
    have hk54 := c54 b hb H2
    unfold atI
    by_cases ha4 : idxN fs a < fs.length
    rotate_left
    · rw [if_neg ha4]
      rw [decide_eq_false ha4] at hh
      have hE : rRenameE m a b = 210 := by unfold rRenameE; rw [hoff, hh]; rfl
      have hM : rRenameM m a b = rStep m := by unfold rRenameM; rw [hE]; rfl
      repeat' (first
        | ((with_reducible apply Onw.mk); conv => whnf)
        | (with_reducible first | apply Br.tt | apply Br.ff | apply Br.no)
        | ((with_reducible apply Br.t); · assumption)
        | ((with_reducible apply Br.f); · assumption)
        | ((with_reducible apply Br.dt); · exact ab_known)
        | ((with_reducible apply Br.df); · exact ab_known)
        | (with_reducible first | refine Br.dec (fun hc => ?_) (fun hc => ?_) | refine Br.mk (fun hc => ?_) (fun hc => ?_))
        | (refine CallOK.go (hk54) (fun r2 H2 hr2 => ?_); obtain ⟨rfl, he2⟩ := hr2; rw [he2]; clear he2 H2)
        | (refine DetCall.go hk54 ?_)
        | ((with_reducible first | apply NeedRows.mk | apply NeedMap.mk | apply NeedIter.mk); · exact ab_look)
        | ((with_reducible apply NeedLen.mk); · first | assumption | rfl)
        | ((with_reducible apply NeedRow.mk); · exact ab_lookR)
        | ((with_reducible apply DrawG.mk (List.replicate 60 false)); · decide +kernel)
        | (with_reducible first | refine NewP.mk (fun id hid => ?_) | refine NilP.mk (fun e he => ?_))
        | (with_reducible first | exact trivial | exact And.intro rfl rfl)
        | ((with_reducible apply PreP.mk); · exact ab_asked)
        | refine Exists.intro _ (PreP.mk (bytesOf_lst _) ?_)
        | refine PreP.mk (lenD_lst _) ?_
        | (with_reducible first | refine PreP.mk ?_ ?_ | refine BothP.mk ?_ ?_)
        | ((with_reducible apply AncOr.anc); · decide +kernel)
        | with_reducible refine AncOr.go ?_)
      rw [hE, hM]
      exact ⟨rfl, _, hm0, g1⟩
    rw [if_pos ha4]
    rw [decide_eq_true ha4] at hh
    have hc4 : ¬ ((idxN fs a : Int) < 0) := by omega
    cases hok : okName b with
    | false =>
      rw [hok] at hk54
      have hE : rRenameE m a b = 210 := by unfold rRenameE; rw [hoff, hh, hok]; rfl
      have hM : rRenameM m a b = rStep m := by unfold rRenameM; rw [hE]; rfl
      repeat' (first
        | ((with_reducible apply Onw.mk); conv => whnf)
        | (with_reducible first | apply Br.tt | apply Br.ff | apply Br.no)
        | ((with_reducible apply Br.t); · assumption)
        | ((with_reducible apply Br.f); · assumption)
        | ((with_reducible apply Br.dt); · exact ab_known)
        | ((with_reducible apply Br.df); · exact ab_known)
        | (with_reducible first | refine Br.dec (fun hc => ?_) (fun hc => ?_) | refine Br.mk (fun hc => ?_) (fun hc => ?_))
        | (refine CallOK.go (hk54) (fun r2 H2 hr2 => ?_); obtain ⟨rfl, he2⟩ := hr2; rw [he2]; clear he2 H2)
        | (refine DetCall.go hk54 ?_)
        | ((with_reducible first | apply NeedRows.mk | apply NeedMap.mk | apply NeedIter.mk); · exact ab_look)
        | ((with_reducible apply NeedLen.mk); · first | assumption | rfl)
        | ((with_reducible apply NeedRow.mk); · exact ab_lookR)
        | ((with_reducible apply DrawG.mk (List.replicate 60 false)); · decide +kernel)
        | (with_reducible first | refine NewP.mk (fun id hid => ?_) | refine NilP.mk (fun e he => ?_))
        | (with_reducible first | exact trivial | exact And.intro rfl rfl)
        | ((with_reducible apply PreP.mk); · exact ab_asked)
        | refine Exists.intro _ (PreP.mk (bytesOf_lst _) ?_)
        | refine PreP.mk (lenD_lst _) ?_
        | (with_reducible first | refine PreP.mk ?_ ?_ | refine BothP.mk ?_ ?_)
        | ((with_reducible apply AncOr.anc); · decide +kernel)
        | with_reducible refine AncOr.go ?_)
      rw [hE, hM]
      exact ⟨rfl, _, hm0, g1⟩
    | true =>
    rw [hok] at hk54
    have hE : rRenameE m a b = 0 := by unfold rRenameE; rw [hoff, hh, hok]; rfl
    rw [hE]
    by_cases hab : a = b
    · have hM : rRenameM m a b = rStep m := by unfold rRenameM; rw [hE]; simp [hab]
      rw [hM]
      repeat' (first
        | ((with_reducible apply Onw.mk); conv => whnf)
        | (with_reducible first | apply Br.tt | apply Br.ff | apply Br.no)
        | ((with_reducible apply Br.t); · assumption)
        | ((with_reducible apply Br.f); · assumption)
        | ((with_reducible apply Br.dt); · exact ab_known)
        | ((with_reducible apply Br.df); · exact ab_known)
        | (with_reducible first | refine Br.dec (fun hc => ?_) (fun hc => ?_) | refine Br.mk (fun hc => ?_) (fun hc => ?_))
        | (refine CallOK.go (hk54) (fun r2 H2 hr2 => ?_); obtain ⟨rfl, he2⟩ := hr2; rw [he2]; clear he2 H2)
        | (refine DetCall.go hk54 ?_)
        | ((with_reducible first | apply NeedRows.mk | apply NeedMap.mk | apply NeedIter.mk); · exact ab_look)
        | ((with_reducible apply NeedLen.mk); · first | assumption | rfl)
        | ((with_reducible apply NeedRow.mk); · exact ab_lookR)
        | ((with_reducible apply DrawG.mk (List.replicate 60 false)); · decide +kernel)
        | (with_reducible first | refine NewP.mk (fun id hid => ?_) | refine NilP.mk (fun e he => ?_))
        | (with_reducible first | exact trivial | exact And.intro rfl rfl)
        | ((with_reducible apply PreP.mk); · exact ab_asked)
        | refine Exists.intro _ (PreP.mk (bytesOf_lst _) ?_)
        | refine PreP.mk (lenD_lst _) ?_
        | (with_reducible first | refine PreP.mk ?_ ?_ | refine BothP.mk ?_ ?_)
        | ((with_reducible apply AncOr.anc); · decide +kernel)
        | with_reducible refine AncOr.go ?_)
      exact ⟨rfl, _, hm0, g1⟩
    obtain ⟨f, hf, hfn⟩ := idx_there ha4
    have hfm := List.mem_of_getElem? hf
    have hfind : (m.files.find? fun p => decide (p.name = a)) = some (rpf f) := by
      rw [find_dec, ← hfn]
      exact find_name ok.nd (p := rpf f) (by rw [← hfs]; exact List.mem_map.2 ⟨f, hfm, rfl⟩)
    have hM : rRenameM m a b = { rStep m with files := insP { rpf f with name := b } (dropN' (dropN' m.files a) b) } := by unfold rRenameM; rw [hE, hfind, if_neg hab]; rfl
    rw [hM]
    repeat' (first
      | ((with_reducible apply Onw.mk); conv => whnf)
      | (with_reducible first | apply Br.tt | apply Br.ff | apply Br.no)
      | ((with_reducible apply Br.t); · assumption)
      | ((with_reducible apply Br.f); · assumption)
      | ((with_reducible apply Br.dt); · exact ab_known)
      | ((with_reducible apply Br.df); · exact ab_known)
      | (with_reducible first | refine Br.dec (fun hc => ?_) (fun hc => ?_) | refine Br.mk (fun hc => ?_) (fun hc => ?_))
      | (refine CallOK.go (hk54) (fun r2 H2 hr2 => ?_); obtain ⟨rfl, he2⟩ := hr2; rw [he2]; clear he2 H2)
      | (refine DetCall.go hk54 ?_)
      | ((with_reducible first | apply NeedRows.mk | apply NeedMap.mk | apply NeedIter.mk); · exact ab_look)
      | ((with_reducible apply NeedLen.mk); · first | assumption | rfl)
      | ((with_reducible apply NeedRow.mk); · exact ab_lookR)
      | ((with_reducible apply DrawG.mk (List.replicate 60 false)); · decide +kernel)
      | (with_reducible first | refine NewP.mk (fun id hid => ?_) | refine NilP.mk (fun e he => ?_))
      | (with_reducible first | exact trivial | exact And.intro rfl rfl)
      | ((with_reducible apply PreP.mk); · exact ab_asked)
      | refine Exists.intro _ (PreP.mk (bytesOf_lst _) ?_)
      | refine PreP.mk (lenD_lst _) ?_
      | (with_reducible first | refine PreP.mk ?_ ?_ | refine BothP.mk ?_ ?_)
      | ((with_reducible apply AncOr.anc); · decide +kernel)
      | with_reducible refine AncOr.go ?_)
    refine CallOK.go (CallOK.of_spec (s58 _ r fid fs _ _ _ _ (idxN fs a) f hf h1.row h1.rows h1.r_fid (by omega))) (fun r4 H3 hr => ?_)
    obtain ⟨rfl, he3⟩ := hr
    obtain ⟨d1, d2, d3⟩ := h1.drop hf
    have gd := goes_drop h1 hf
    rw [← he3] at d1 d2 gd
    clear he3
    have hpf3 : (fs.eraseIdx (idxN fs a)).map rpf = dropN' m.files a := by rw [← hfs]; exact erase_pf hnd a
    have hlen3 : (fs.eraseIdx (idxN fs a)).length ≤ 1000 := Nat.le_trans (List.length_eraseIdx_le ..) hl
    have hnd3 : ((fs.eraseIdx (idxN fs a)).map (·.name)).Nodup := hnd.sublist ((List.eraseIdx_sublist fs _).map _)
    generalize fs.eraseIdx (idxN fs a) = fs3 at d1 d3 gd hpf3 hlen3 hnd3
    generalize H2.length + 3 = fid3 at d1 d3 gd
    have g3 := g1.trans gd
    repeat' (first
      | ((with_reducible apply Onw.mk); conv => whnf)
      | (with_reducible first | apply Br.tt | apply Br.ff | apply Br.no)
      | ((with_reducible apply Br.t); · assumption)
      | ((with_reducible apply Br.f); · assumption)
      | ((with_reducible apply Br.dt); · exact ab_known)
      | ((with_reducible apply Br.df); · exact ab_known)
      | (with_reducible first | refine Br.dec (fun hc => ?_) (fun hc => ?_) | refine Br.mk (fun hc => ?_) (fun hc => ?_))
      | ((with_reducible first | apply NeedRows.mk | apply NeedMap.mk | apply NeedIter.mk); · exact ab_look)
      | ((with_reducible apply NeedLen.mk); · first | assumption | rfl)
      | ((with_reducible apply NeedRow.mk); · exact ab_lookR)
      | ((with_reducible apply DrawG.mk (List.replicate 60 false)); · decide +kernel)
      | (with_reducible first | refine NewP.mk (fun id hid => ?_) | refine NilP.mk (fun e he => ?_))
      | (with_reducible first | exact trivial | exact And.intro rfl rfl)
      | ((with_reducible apply PreP.mk); · exact ab_asked)
      | refine Exists.intro _ (PreP.mk (bytesOf_lst _) ?_)
      | refine PreP.mk (lenD_lst _) ?_
      | (with_reducible first | refine PreP.mk ?_ ?_ | refine BothP.mk ?_ ?_)
      | ((with_reducible apply AncOr.anc); · decide +kernel)
      | with_reducible refine AncOr.go ?_)
    have hid8 := hid
    have d1' := d1.move (H' := setN (H3 ++ [.rows [[.p (.str []), .p .nil, i64 0]]]) id (.rows [rowF f])) (fun j hj x hx => nth_setN_ne (by have := nth_lt hx; omega) (nth_app hx))
    have d2' : nth (setN (H3 ++ [.rows [[.p (.str []), .p .nil, i64 0]]]) id (.rows [rowF f])) f.bid = some (.rows (f.bytes.map byteRowD)) := nth_setN_ne (by have := nth_lt d2; omega) (nth_app d2)
    have g4 : Goes H3 (idsR r fid3 fs3) (setN (H3 ++ [.rows [[.p (.str []), .p .nil, i64 0]]]) id (.rows [rowF f])) (idsR r fid3 fs3) := ⟨fun j X hj hX => nth_setN_ne (by have := nth_lt hX; omega) (nth_app hX), fun j hj => .inl hj, by rw [setN_length]; simp⟩
    have hd8 : nth (setN (H3 ++ [.rows [[.p (.str []), .p .nil, i64 0]]]) id (.rows [rowF f])) id = some (.rows [rowF f]) := nth_setN_same (nth_new hid)
    have hid3 : id ∉ idsR r fid3 fs3 := fun e => by have := d1.lt id e; omega
    have hidb : id ≠ f.bid := by have := nth_lt d2; omega
    have hidl : H3.length ≤ id := by omega
    change CallOK Try.prog 55 _ (setN (H3 ++ [.rows [[.p (.str []), .p .nil, i64 0]]]) id (.rows [rowF f])) _
    generalize setN (H3 ++ [.rows [[.p (.str []), .p .nil, i64 0]]]) id (.rows [rowF f]) = H4 at d1' d2' g4 hd8 ⊢
    have g5 := g3.trans g4
    refine CallOK.go (c55 d1' (by omega) b) (fun r5 H5 hr => ?_)
    obtain ⟨rfl, rfl⟩ := hr
    unfold atI
    by_cases hb4 : idxN fs3 b < fs3.length
    · rw [if_pos hb4]
      have hc6 : (0 : Int) ≤ (idxN fs3 b : Int) := by omega
      obtain ⟨f3, hf3, hfn3⟩ := idx_there hb4
      repeat' (first
        | ((with_reducible apply Onw.mk); conv => whnf)
        | (with_reducible first | apply Br.tt | apply Br.ff | apply Br.no)
        | ((with_reducible apply Br.t); · assumption)
        | ((with_reducible apply Br.f); · assumption)
        | ((with_reducible apply Br.dt); · exact ab_known)
        | ((with_reducible apply Br.df); · exact ab_known)
        | (with_reducible first | refine Br.dec (fun hc => ?_) (fun hc => ?_) | refine Br.mk (fun hc => ?_) (fun hc => ?_))
        | ((with_reducible first | apply NeedRows.mk | apply NeedMap.mk | apply NeedIter.mk); · exact ab_look)
        | ((with_reducible apply NeedLen.mk); · first | assumption | rfl)
        | ((with_reducible apply NeedRow.mk); · exact ab_lookR)
        | ((with_reducible apply DrawG.mk (List.replicate 60 false)); · decide +kernel)
        | (with_reducible first | refine NewP.mk (fun id hid => ?_) | refine NilP.mk (fun e he => ?_))
        | (with_reducible first | exact trivial | exact And.intro rfl rfl)
        | ((with_reducible apply PreP.mk); · exact ab_asked)
        | refine Exists.intro _ (PreP.mk (bytesOf_lst _) ?_)
        | refine PreP.mk (lenD_lst _) ?_
        | (with_reducible first | refine PreP.mk ?_ ?_ | refine BothP.mk ?_ ?_)
        | ((with_reducible apply AncOr.anc); · decide +kernel)
        | with_reducible refine AncOr.go ?_)
      refine CallOK.go (CallOK.of_spec (s58 _ r fid3 fs3 _ _ _ _ (idxN fs3 b) f3 hf3 d1'.row d1'.rows d1'.r_fid (by omega))) (fun r6 H6 hr => ?_)
      obtain ⟨rfl, he6⟩ := hr
      obtain ⟨k1, _, _⟩ := d1'.drop hf3
      have gk := goes_drop d1' hf3
      rw [← he6] at k1 gk
      clear he6
      have k2 := gk.out f.bid _ d3 d2'
      have k8 := gk.out id _ hid3 hd8
      have k3 : f.bid ∉ idsR r (H5.length + 3) (fs3.eraseIdx (idxN fs3 b)) := fun e => by
        rcases gk.ids f.bid e with q | q
        · exact d3 q
        · have := nth_lt d2'; omega
      have k9 : id ∉ idsR r (H5.length + 3) (fs3.eraseIdx (idxN fs3 b)) := fun e => by
        rcases gk.ids id e with q | q
        · exact hid3 q
        · have := nth_lt hd8; omega
      have hpf6 : (fs3.eraseIdx (idxN fs3 b)).map rpf = dropN' (dropN' m.files a) b := by rw [← hpf3]; exact erase_pf hnd3 b
      have hlen6 : (fs3.eraseIdx (idxN fs3 b)).length ≤ 1000 := Nat.le_trans (List.length_eraseIdx_le ..) hlen3
      have g6 := g5.trans gk
      generalize fs3.eraseIdx (idxN fs3 b) = fs6 at k1 k3 k9 hpf6 hlen6 g6
      generalize H5.length + 3 = fid6 at k1 k3 k9 g6
      repeat' (first
        | ((with_reducible apply Onw.mk); conv => whnf)
        | (with_reducible first | apply Br.tt | apply Br.ff | apply Br.no)
        | ((with_reducible apply Br.t); · assumption)
        | ((with_reducible apply Br.f); · assumption)
        | ((with_reducible apply Br.dt); · exact ab_known)
        | ((with_reducible apply Br.df); · exact ab_known)
        | (with_reducible first | refine Br.dec (fun hc => ?_) (fun hc => ?_) | refine Br.mk (fun hc => ?_) (fun hc => ?_))
        | ((with_reducible first | apply NeedRows.mk | apply NeedMap.mk | apply NeedIter.mk); · exact ab_look)
        | ((with_reducible apply NeedLen.mk); · first | assumption | rfl)
        | ((with_reducible apply NeedRow.mk); · exact ab_lookR)
        | ((with_reducible apply DrawG.mk (List.replicate 60 false)); · decide +kernel)
        | (with_reducible first | refine NewP.mk (fun id hid => ?_) | refine NilP.mk (fun e he => ?_))
        | (with_reducible first | exact trivial | exact And.intro rfl rfl)
        | ((with_reducible apply PreP.mk); · exact ab_asked)
        | refine Exists.intro _ (PreP.mk (bytesOf_lst _) ?_)
        | refine PreP.mk (lenD_lst _) ?_
        | (with_reducible first | refine PreP.mk ?_ ?_ | refine BothP.mk ?_ ?_)
        | ((with_reducible apply AncOr.anc); · decide +kernel)
        | with_reducible refine AncOr.go ?_)
      have hl0 := g3.len
      have q1 := k1.move (H' := setN H6 id (.rows [[.p (.str b), .own f.bid 1 0 f.bytes.length none, i64 f.kept]])) (fun j hj x hx => nth_setN_ne (fun e => k9 (by rw [e]; exact hj)) hx)
      have q2 : nth (setN H6 id (.rows [[.p (.str b), .own f.bid 1 0 f.bytes.length none, i64 f.kept]])) f.bid = some (.rows (f.bytes.map byteRowD)) := nth_setN_ne hidb k2
      have g7 : Goes H (idsR r fid fs) (setN H6 id (.rows [[.p (.str b), .own f.bid 1 0 f.bytes.length none, i64 f.kept]])) (f.bid :: idsR r fid6 fs6) := ⟨fun j x hj hx => nth_setN_ne (by have := nth_lt hx; omega) (g6.out j x hj hx), fun j hj => by
        rcases List.mem_cons.1 hj with e | e
        · exact .inl (by rw [e]; exact List.mem_cons_of_mem _ (List.mem_cons_of_mem _ (List.mem_map.2 ⟨f, hfm, rfl⟩)))
        · exact g6.ids j e, by rw [setN_length]; exact g6.len⟩
      change CallOK Try.prog 57 [.ptr r 0 0, .agg [.p (.str b), .own f.bid 1 0 f.bytes.length none, i64 f.kept]] (setN H6 id (.rows [[.p (.str b), .own f.bid 1 0 f.bytes.length none, i64 f.kept]])) _
      generalize setN H6 id (.rows [[.p (.str b), .own f.bid 1 0 f.bytes.length none, i64 f.kept]]) = H7 at q1 q2 g7 ⊢
      refine CallOK.go (CallOK.of_spec (s57o _ r fid6 fs6 _ _ _ _ b f.bid f.bytes.length f.kept q1.row q1.rows q1.r_fid (by omega))) (fun r7 H8 hr => ?_)
      obtain ⟨rfl, rfl⟩ := hr
      repeat' (first
        | ((with_reducible apply Onw.mk); conv => whnf)
        | (with_reducible first | apply Br.tt | apply Br.ff | apply Br.no)
        | ((with_reducible apply Br.t); · assumption)
        | ((with_reducible apply Br.f); · assumption)
        | ((with_reducible apply Br.dt); · exact ab_known)
        | ((with_reducible apply Br.df); · exact ab_known)
        | (with_reducible first | refine Br.dec (fun hc => ?_) (fun hc => ?_) | refine Br.mk (fun hc => ?_) (fun hc => ?_))
        | ((with_reducible first | apply NeedRows.mk | apply NeedMap.mk | apply NeedIter.mk); · exact ab_look)
        | ((with_reducible apply NeedLen.mk); · first | assumption | rfl)
        | ((with_reducible apply NeedRow.mk); · exact ab_lookR)
        | ((with_reducible apply DrawG.mk (List.replicate 60 false)); · decide +kernel)
        | (with_reducible first | refine NewP.mk (fun id hid => ?_) | refine NilP.mk (fun e he => ?_))
        | (with_reducible first | exact trivial | exact And.intro rfl rfl)
        | ((with_reducible apply PreP.mk); · exact ab_asked)
        | refine Exists.intro _ (PreP.mk (bytesOf_lst _) ?_)
        | refine PreP.mk (lenD_lst _) ?_
        | (with_reducible first | refine PreP.mk ?_ ?_ | refine BothP.mk ?_ ?_)
        | ((with_reducible apply AncOr.anc); · decide +kernel)
        | with_reducible refine AncOr.go ?_)
      have hI := q1.insert ⟨b, f.bid, f.bytes, f.kept⟩ q2 k3
      have g8 : Goes H7 (f.bid :: idsR r fid6 fs6) (insHeap H7 r fid6 fs6 m.quota (rStep m).steps (rStep m).power (rStep m).off b [.p (.str b), .own f.bid 1 0 f.bytes.length none, i64 f.kept]) (idsR r (H7.length + 1) (insF fs6 ⟨b, f.bid, f.bytes, f.kept⟩)) := by
        have g9 := goes_ins q1 b [.p (.str b), .own f.bid 1 0 f.bytes.length none, i64 f.kept] (ids' := []) (fun j hj => by cases hj)
        refine ⟨fun j X hj hX => g9.out j X (fun e => hj (List.mem_cons_of_mem _ e)) hX, fun j hj => ?_, g9.len⟩
        unfold idsR at hj
        rcases List.mem_cons.1 hj with e | e
        · exact .inl (by rw [e]; exact List.mem_cons_of_mem _ (List.mem_cons_self ..))
        rcases List.mem_cons.1 e with e | e
        · exact .inr (by omega)
        · rcases List.mem_cons.1 (((insF_perm fs6 _).map (·.bid)).mem_iff.1 e) with e | e
          · exact .inl (by rw [e]; exact List.mem_cons_self ..)
          · exact .inl (List.mem_cons_of_mem _ (List.mem_cons_of_mem _ (List.mem_cons_of_mem _ e)))
      exact ⟨rfl, _, ⟨_, _, hI, (insF_pf fs6 ⟨b, f.bid, f.bytes, f.kept⟩).trans (by rw [hpf6]; rfl), rfl⟩, g7.trans g8⟩
    · rw [if_neg hb4]
      have hc6 : ¬ (0 : Int) ≤ (-1 : Int) := by omega
      have hpf6 : fs3.map rpf = dropN' (dropN' m.files a) b := by
        rw [← hpf3]
        unfold dropN'
        rw [eq_comm, List.filter_eq_self]
        intro p hp
        obtain ⟨y, hy, rfl⟩ := List.mem_map.1 hp
        simp only [ne_eq, decide_not, Bool.not_eq_true', decide_eq_false_iff_not]
        exact fun e2 => hb4 (List.findIdx_lt_length_of_exists ⟨y, hy, decide_eq_true e2⟩)
      have k1 := d1'
      have k2 := d2'
      have k3 := d3
      have k8 := hd8
      have k9 := hid3
      have hlen6 := hlen3
      have g6 := g5
      repeat' (first
        | ((with_reducible apply Onw.mk); conv => whnf)
        | (with_reducible first | apply Br.tt | apply Br.ff | apply Br.no)
        | ((with_reducible apply Br.t); · assumption)
        | ((with_reducible apply Br.f); · assumption)
        | ((with_reducible apply Br.dt); · exact ab_known)
        | ((with_reducible apply Br.df); · exact ab_known)
        | (with_reducible first | refine Br.dec (fun hc => ?_) (fun hc => ?_) | refine Br.mk (fun hc => ?_) (fun hc => ?_))
        | ((with_reducible first | apply NeedRows.mk | apply NeedMap.mk | apply NeedIter.mk); · exact ab_look)
        | ((with_reducible apply NeedLen.mk); · first | assumption | rfl)
        | ((with_reducible apply NeedRow.mk); · exact ab_lookR)
        | ((with_reducible apply DrawG.mk (List.replicate 60 false)); · decide +kernel)
        | (with_reducible first | refine NewP.mk (fun id hid => ?_) | refine NilP.mk (fun e he => ?_))
        | (with_reducible first | exact trivial | exact And.intro rfl rfl)
        | ((with_reducible apply PreP.mk); · exact ab_asked)
        | refine Exists.intro _ (PreP.mk (bytesOf_lst _) ?_)
        | refine PreP.mk (lenD_lst _) ?_
        | (with_reducible first | refine PreP.mk ?_ ?_ | refine BothP.mk ?_ ?_)
        | ((with_reducible apply AncOr.anc); · decide +kernel)
        | with_reducible refine AncOr.go ?_)
      have hl0 := g3.len
      have q1 := k1.move (H' := setN H5 id (.rows [[.p (.str b), .own f.bid 1 0 f.bytes.length none, i64 f.kept]])) (fun j hj x hx => nth_setN_ne (fun e => k9 (by rw [e]; exact hj)) hx)
      have q2 : nth (setN H5 id (.rows [[.p (.str b), .own f.bid 1 0 f.bytes.length none, i64 f.kept]])) f.bid = some (.rows (f.bytes.map byteRowD)) := nth_setN_ne hidb k2
      have g7 : Goes H (idsR r fid fs) (setN H5 id (.rows [[.p (.str b), .own f.bid 1 0 f.bytes.length none, i64 f.kept]])) (f.bid :: idsR r fid3 fs3) := ⟨fun j x hj hx => nth_setN_ne (by have := nth_lt hx; omega) (g6.out j x hj hx), fun j hj => by
        rcases List.mem_cons.1 hj with e | e
        · exact .inl (by rw [e]; exact List.mem_cons_of_mem _ (List.mem_cons_of_mem _ (List.mem_map.2 ⟨f, hfm, rfl⟩)))
        · exact g6.ids j e, by rw [setN_length]; exact g6.len⟩
      change CallOK Try.prog 57 [.ptr r 0 0, .agg [.p (.str b), .own f.bid 1 0 f.bytes.length none, i64 f.kept]] (setN H5 id (.rows [[.p (.str b), .own f.bid 1 0 f.bytes.length none, i64 f.kept]])) _
      generalize setN H5 id (.rows [[.p (.str b), .own f.bid 1 0 f.bytes.length none, i64 f.kept]]) = H7 at q1 q2 g7 ⊢
      refine CallOK.go (CallOK.of_spec (s57o _ r fid3 fs3 _ _ _ _ b f.bid f.bytes.length f.kept q1.row q1.rows q1.r_fid (by omega))) (fun r7 H8 hr => ?_)
      obtain ⟨rfl, rfl⟩ := hr
      repeat' (first
        | ((with_reducible apply Onw.mk); conv => whnf)
        | (with_reducible first | apply Br.tt | apply Br.ff | apply Br.no)
        | ((with_reducible apply Br.t); · assumption)
        | ((with_reducible apply Br.f); · assumption)
        | ((with_reducible apply Br.dt); · exact ab_known)
        | ((with_reducible apply Br.df); · exact ab_known)
        | (with_reducible first | refine Br.dec (fun hc => ?_) (fun hc => ?_) | refine Br.mk (fun hc => ?_) (fun hc => ?_))
        | ((with_reducible first | apply NeedRows.mk | apply NeedMap.mk | apply NeedIter.mk); · exact ab_look)
        | ((with_reducible apply NeedLen.mk); · first | assumption | rfl)
        | ((with_reducible apply NeedRow.mk); · exact ab_lookR)
        | ((with_reducible apply DrawG.mk (List.replicate 60 false)); · decide +kernel)
        | (with_reducible first | refine NewP.mk (fun id hid => ?_) | refine NilP.mk (fun e he => ?_))
        | (with_reducible first | exact trivial | exact And.intro rfl rfl)
        | ((with_reducible apply PreP.mk); · exact ab_asked)
        | refine Exists.intro _ (PreP.mk (bytesOf_lst _) ?_)
        | refine PreP.mk (lenD_lst _) ?_
        | (with_reducible first | refine PreP.mk ?_ ?_ | refine BothP.mk ?_ ?_)
        | ((with_reducible apply AncOr.anc); · decide +kernel)
        | with_reducible refine AncOr.go ?_)
      have hI := q1.insert ⟨b, f.bid, f.bytes, f.kept⟩ q2 k3
      have g8 : Goes H7 (f.bid :: idsR r fid3 fs3) (insHeap H7 r fid3 fs3 m.quota (rStep m).steps (rStep m).power (rStep m).off b [.p (.str b), .own f.bid 1 0 f.bytes.length none, i64 f.kept]) (idsR r (H7.length + 1) (insF fs3 ⟨b, f.bid, f.bytes, f.kept⟩)) := by
        have g9 := goes_ins q1 b [.p (.str b), .own f.bid 1 0 f.bytes.length none, i64 f.kept] (ids' := []) (fun j hj => by cases hj)
        refine ⟨fun j X hj hX => g9.out j X (fun e => hj (List.mem_cons_of_mem _ e)) hX, fun j hj => ?_, g9.len⟩
        unfold idsR at hj
        rcases List.mem_cons.1 hj with e | e
        · exact .inl (by rw [e]; exact List.mem_cons_of_mem _ (List.mem_cons_self ..))
        rcases List.mem_cons.1 e with e | e
        · exact .inr (by omega)
        · rcases List.mem_cons.1 (((insF_perm fs3 _).map (·.bid)).mem_iff.1 e) with e | e
          · exact .inl (by rw [e]; exact List.mem_cons_self ..)
          · exact .inl (List.mem_cons_of_mem _ (List.mem_cons_of_mem _ (List.mem_cons_of_mem _ e)))
      exact ⟨rfl, _, ⟨_, _, hI, (insF_pf fs3 ⟨b, f.bid, f.bytes, f.kept⟩).trans (by rw [hpf6]; rfl), rfl⟩, g7.trans g8⟩
end Go.Proofs.Ytanknokhbfijdaa
