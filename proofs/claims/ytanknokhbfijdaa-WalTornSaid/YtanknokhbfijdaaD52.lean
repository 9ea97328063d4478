/- What functions of the disk, and of the laws over it, do. Conditions: those that each theorem names. -/
import Derived.Test.YtanknokhbfijdaaD51
set_option linter.unusedVariables false
set_option linter.unusedSimpArgs false
namespace Go.Proofs.Ytanknokhbfijdaa
open Go.Ab
set_option maxRecDepth 100000
set_option maxHeartbeats 1000000
attribute [local irreducible] Run CallOK DetCall Br PreP BothP AncOr Onw NeedRows NeedMap NeedRow NeedLen NilP NeedIter RoundP EntryP EqP OptP NewP NewSlice NewMade AppTo DrawG anc drawB
theorem rows_app' (a b : List UInt8) : a.map byteRowD ++ (b.map byteRow).map (·.map D.p) = (a ++ b).map byteRowD := by
  rw [byteRow_map, List.map_append]
theorem s11 (l : List (List UInt8)) (c : Nat) (hc16 : c < 65536) : Ab.Spec Try.prog 11 [.p (.lst (l.map strRow)), .p (.int .u16 c)] [] (fun r _ => r = boolD true) := by
  have hll : ((l.map strRow).length : Int) = l.length := by simp
  refine Ab.Spec.walk hm Try.func11 (by kernel_rfl) 300 ?_
  repeat' (first
    | ((with_reducible apply Onw.mk); conv => whnf)
    | (with_reducible first | apply Br.tt | apply Br.ff | apply Br.no)
    | ((with_reducible apply Br.t); · assumption)
    | ((with_reducible apply Br.f); · assumption)
    | ((with_reducible apply Br.dt); · exact ab_known)
    | ((with_reducible apply Br.df); · exact ab_known)
    | (with_reducible first | refine Br.dec (fun hc => ?_) (fun hc => ?_) | refine Br.mk (fun hc => ?_) (fun hc => ?_))
    | ((with_reducible first | apply NeedRows.mk | apply NeedMap.mk | apply NeedIter.mk); · exact ab_look)
    | ((with_reducible apply NeedLen.mk); · first | assumption | rfl)
    | ((with_reducible apply NeedRow.mk); · exact ab_lookR)
    | ((with_reducible apply DrawG.mk (List.replicate 60 false)); · decide +kernel)
    | (with_reducible first | refine NewP.mk (fun id hid => ?_) | refine NilP.mk (fun e he => ?_))
    | (with_reducible first | exact trivial | exact And.intro rfl rfl)
    | ((with_reducible apply PreP.mk); · exact ab_asked)
    | refine Exists.intro _ (PreP.mk (bytesOf_lst _) ?_)
    | refine PreP.mk (lenD_lst _) ?_
    | (with_reducible first | refine PreP.mk ?_ ?_ | refine BothP.mk ?_ ?_)
    | ((with_reducible apply AncOr.anc); · decide +kernel)
    | with_reducible refine AncOr.go ?_)
  refine CallOK.go (c35 _) (fun r H0 hr => ?_)
  obtain ⟨rfl, rfl⟩ := hr
  repeat' (first
    | ((with_reducible apply Onw.mk); conv => whnf)
    | (with_reducible first | apply Br.tt | apply Br.ff | apply Br.no)
    | ((with_reducible apply Br.t); · assumption)
    | ((with_reducible apply Br.f); · assumption)
    | ((with_reducible apply Br.dt); · exact ab_known)
    | ((with_reducible apply Br.df); · exact ab_known)
    | (with_reducible first | refine Br.dec (fun hc => ?_) (fun hc => ?_) | refine Br.mk (fun hc => ?_) (fun hc => ?_))
    | ((with_reducible first | apply NeedRows.mk | apply NeedMap.mk | apply NeedIter.mk); · exact ab_look)
    | ((with_reducible apply NeedLen.mk); · first | assumption | rfl)
    | ((with_reducible apply NeedRow.mk); · exact ab_lookR)
    | ((with_reducible apply DrawG.mk (List.replicate 60 false)); · decide +kernel)
    | (with_reducible first | refine NewP.mk (fun id hid => ?_) | refine NilP.mk (fun e he => ?_))
    | (with_reducible first | exact trivial | exact And.intro rfl rfl)
    | ((with_reducible apply PreP.mk); · exact ab_asked)
    | refine Exists.intro _ (PreP.mk (bytesOf_lst _) ?_)
    | refine PreP.mk (lenD_lst _) ?_
    | (with_reducible first | refine PreP.mk ?_ ?_ | refine BothP.mk ?_ ?_)
    | ((with_reducible apply AncOr.anc); · decide +kernel)
    | with_reducible refine AncOr.go ?_)
  · exact rfl
  refine Run.virt 5 1 rfl ?_
  refine Run.virt 6 1 rfl ?_
  refine Run.keep [(0, .p (.lst (l.map strRow))), (1, .p (.int .u16 c)), (5, .own 0 1 0 (framesL (l.take 0)).length none), (6, .own 1 1 0 (0 : Nat) none), (7, i64 (0 : Nat))] ⟨rfl, rfl, rfl, rfl, rfl, trivial⟩ ?_
  refine Run.rounds (fun (i : Nat) T H2 => ∃ (id5 id6 : Nat), T = [(0, .p (.lst (l.map strRow))), (1, .p (.int .u16 c)), (5, .own id5 1 0 (framesL (l.take i)).length none), (6, .own id6 1 0 i none), (7, i64 (i : Nat))] ∧
    nth H2 id5 = some (.rows ((framesL (l.take i)).map byteRowD)) ∧ nth H2 id6 = some (.rows (((endsL l i).map intRow).map (·.map D.p))) ∧ id5 ≠ id6 ∧ (∀ s ∈ l.take i, s.length ≤ 300) ∧ i ≤ l.length) (fun i => l.length - i) ?_ (x := 0)
    ⟨0, 1, rfl, rfl, rfl, by decide, by simp, by omega⟩
  rintro i T H2 ⟨id5, id6, rfl, hrow5, hrow6, hne, hsm, hi⟩ ih
  rcases Nat.lt_or_ge i l.length with hil | hil
  · obtain ⟨x, hx⟩ : ∃ x, l[i]? = some x := ⟨_, List.getElem?_eq_getElem hil⟩
    have hri : Ab.rowAt (l.map strRow) (i : Int).toNat = strRow x := rowAt_map hx
    have hrp : 0 ≤ (i : Int) ∧ (i : Int) < (l.map strRow).length ∧ (Ab.rowAt (l.map strRow) (i : Int).toNat).length = 1 := ⟨by omega, by omega, by rw [hri]; rfl⟩
    refine Run.walk hm Try.func11 300 ?_
    repeat' (first
      | ((with_reducible apply Onw.mk); conv => whnf)
      | (with_reducible first | apply Br.tt | apply Br.ff | apply Br.no)
      | ((with_reducible apply Br.t); · assumption)
      | ((with_reducible apply Br.f); · assumption)
      | ((with_reducible apply Br.dt); · exact ab_known)
      | ((with_reducible apply Br.df); · exact ab_known)
      | (with_reducible first | refine Br.dec (fun hc => ?_) (fun hc => ?_) | refine Br.mk (fun hc => ?_) (fun hc => ?_))
      | (refine PreP.mk hrp ?_)
      | (refine EqP.mk hri ?_)
      | ((with_reducible first | apply NeedRows.mk | apply NeedMap.mk | apply NeedIter.mk); · exact ab_look)
      | ((with_reducible apply NeedLen.mk); · first | assumption | rfl)
      | ((with_reducible apply NeedRow.mk); · exact ab_lookR)
      | ((with_reducible apply DrawG.mk (List.replicate 60 false)); · decide +kernel)
      | (with_reducible first | refine NewP.mk (fun id hid => ?_) | refine NilP.mk (fun e he => ?_))
      | (with_reducible first | exact trivial | exact And.intro rfl rfl)
      | ((with_reducible apply PreP.mk); · exact ab_asked)
      | refine Exists.intro _ (PreP.mk (bytesOf_lst _) ?_)
      | refine PreP.mk (lenD_lst _) ?_
      | (with_reducible first | refine PreP.mk ?_ ?_ | refine BothP.mk ?_ ?_)
      | ((with_reducible apply AncOr.anc); · decide +kernel)
      | with_reducible refine AncOr.go ?_)
    · rfl
    have hx300 : x.length ≤ 300 := by omega
    have hfs := framesL_succ hx
    have hsm' : ∀ s ∈ l.take (i + 1), s.length ≤ 300 := by
      intro s hs
      rw [List.take_add_one, hx] at hs
      rcases List.mem_append.1 hs with h | h
      · exact hsm s h
      · simp at h; rw [h]; exact hx300
    have hfl : (framesL (l.take (i + 1))).length ≤ 12 * 308 := by
      have := framesL_small _ hsm'
      rw [List.length_take] at this; omega
    have hfl0 : (framesL (l.take i)).length ≤ 12 * 308 := by
      rw [hfs, List.length_append] at hfl; omega
    refine CallOK.go (c38 _ x (by omega)) (fun r H3 hr => ?_)
    obtain ⟨rfl, rfl⟩ := hr
    rw [if_neg (by omega)]
    repeat' (first
      | ((with_reducible apply Onw.mk); conv => whnf)
      | (with_reducible first | apply Br.tt | apply Br.ff | apply Br.no)
      | ((with_reducible apply Br.t); · assumption)
      | ((with_reducible apply Br.f); · assumption)
      | ((with_reducible apply Br.dt); · exact ab_known)
      | ((with_reducible apply Br.df); · exact ab_known)
      | (with_reducible first | refine Br.dec (fun hc => ?_) (fun hc => ?_) | refine Br.mk (fun hc => ?_) (fun hc => ?_))
      | ((with_reducible first | apply NeedRows.mk | apply NeedMap.mk | apply NeedIter.mk); · exact ab_look)
      | ((with_reducible apply NeedLen.mk); · first | assumption | rfl)
      | ((with_reducible apply NeedRow.mk); · exact ab_lookR)
      | ((with_reducible apply DrawG.mk (List.replicate 60 false)); · decide +kernel)
      | (with_reducible first | refine NewP.mk (fun id hid => ?_) | refine NilP.mk (fun e he => ?_))
      | (with_reducible first | exact trivial | exact And.intro rfl rfl)
      | ((with_reducible apply PreP.mk); · exact ab_asked)
      | refine Exists.intro _ (PreP.mk (bytesOf_lst _) ?_)
      | refine PreP.mk (lenD_lst _) ?_
      | (with_reducible first | refine PreP.mk ?_ ?_ | refine BothP.mk ?_ ?_)
      | ((with_reducible apply AncOr.anc); · decide +kernel)
      | with_reducible refine AncOr.go ?_)
    · exact appPre5 _ 0 _ _ (by rw [frameL_len]; omega) (by omega) (by simp)
    refine AppTo.new (fun id7 hid7 => ?_)
    repeat' (first
      | ((with_reducible apply Onw.mk); conv => whnf)
      | (with_reducible first | apply Br.tt | apply Br.ff | apply Br.no)
      | ((with_reducible apply Br.t); · assumption)
      | ((with_reducible apply Br.f); · assumption)
      | ((with_reducible apply Br.dt); · exact ab_known)
      | ((with_reducible apply Br.df); · exact ab_known)
      | (with_reducible first | refine Br.dec (fun hc => ?_) (fun hc => ?_) | refine Br.mk (fun hc => ?_) (fun hc => ?_))
      | ((with_reducible first | apply NeedRows.mk | apply NeedMap.mk | apply NeedIter.mk); · exact ab_look)
      | ((with_reducible apply NeedLen.mk); · first | assumption | rfl)
      | ((with_reducible apply NeedRow.mk); · exact ab_lookR)
      | ((with_reducible apply DrawG.mk (List.replicate 60 false)); · decide +kernel)
      | (with_reducible first | refine NewP.mk (fun id hid => ?_) | refine NilP.mk (fun e he => ?_))
      | (with_reducible first | exact trivial | exact And.intro rfl rfl)
      | ((with_reducible apply PreP.mk); · exact ab_asked)
      | refine Exists.intro _ (PreP.mk (bytesOf_lst _) ?_)
      | refine PreP.mk (lenD_lst _) ?_
      | (with_reducible first | refine PreP.mk ?_ ?_ | refine BothP.mk ?_ ?_)
      | ((with_reducible apply AncOr.anc); · decide +kernel)
      | with_reducible refine AncOr.go ?_)
    have hnn : (framesL (l.take (i + 1))).length = (framesL (l.take i)).length + (((frameL x).map byteRow).map (·.map D.p)).length := by
      rw [hfs, List.length_append]; simp
    refine NewSlice.lst [intRow (framesL (l.take (i + 1))).length] (by rw [hnn]; rfl) rfl (fun q hq => by simp at hq; subst hq; rfl) ?_
    repeat' (first
      | ((with_reducible apply Onw.mk); conv => whnf)
      | (with_reducible first | apply Br.tt | apply Br.ff | apply Br.no)
      | ((with_reducible apply Br.t); · assumption)
      | ((with_reducible apply Br.f); · assumption)
      | ((with_reducible apply Br.dt); · exact ab_known)
      | ((with_reducible apply Br.df); · exact ab_known)
      | (with_reducible first | refine Br.dec (fun hc => ?_) (fun hc => ?_) | refine Br.mk (fun hc => ?_) (fun hc => ?_))
      | ((with_reducible first | apply NeedRows.mk | apply NeedMap.mk | apply NeedIter.mk); · exact ab_look)
      | ((with_reducible apply NeedLen.mk); · first | assumption | rfl)
      | ((with_reducible apply NeedRow.mk); · exact ab_lookR)
      | ((with_reducible apply DrawG.mk (List.replicate 60 false)); · decide +kernel)
      | (with_reducible first | refine NewP.mk (fun id hid => ?_) | refine NilP.mk (fun e he => ?_))
      | (with_reducible first | exact trivial | exact And.intro rfl rfl)
      | ((with_reducible apply PreP.mk); · exact ab_asked)
      | refine Exists.intro _ (PreP.mk (bytesOf_lst _) ?_)
      | refine PreP.mk (lenD_lst _) ?_
      | (with_reducible first | refine PreP.mk ?_ ?_ | refine BothP.mk ?_ ?_)
      | ((with_reducible apply AncOr.anc); · decide +kernel)
      | with_reducible refine AncOr.go ?_)
    · exact rows_pre i ((endsL l i).map intRow) [intRow (framesL (l.take (i + 1))).length] (fun q hq => by simp at hq; subst hq; exact ⟨rfl, fun p hp => by simp [intRow] at hp; subst hp; rfl⟩) 8 (by unfold maxRoom; simp; omega) (by unfold maxS; simp; omega) (by simp [endsL_len])
    refine AppTo.new (fun id8 hid8 => ?_)
    repeat' (first
      | ((with_reducible apply Onw.mk); conv => whnf)
      | (with_reducible first | apply Br.tt | apply Br.ff | apply Br.no)
      | ((with_reducible apply Br.t); · assumption)
      | ((with_reducible apply Br.f); · assumption)
      | ((with_reducible apply Br.dt); · exact ab_known)
      | ((with_reducible apply Br.df); · exact ab_known)
      | (with_reducible first | refine Br.dec (fun hc => ?_) (fun hc => ?_) | refine Br.mk (fun hc => ?_) (fun hc => ?_))
      | ((with_reducible first | apply NeedRows.mk | apply NeedMap.mk | apply NeedIter.mk); · exact ab_look)
      | ((with_reducible apply NeedLen.mk); · first | assumption | rfl)
      | ((with_reducible apply NeedRow.mk); · exact ab_lookR)
      | ((with_reducible apply DrawG.mk (List.replicate 60 false)); · decide +kernel)
      | (with_reducible first | refine NewP.mk (fun id hid => ?_) | refine NilP.mk (fun e he => ?_))
      | (with_reducible first | exact trivial | exact And.intro rfl rfl)
      | ((with_reducible apply PreP.mk); · exact ab_asked)
      | refine Exists.intro _ (PreP.mk (bytesOf_lst _) ?_)
      | refine PreP.mk (lenD_lst _) ?_
      | (with_reducible first | refine PreP.mk ?_ ?_ | refine BothP.mk ?_ ?_)
      | ((with_reducible apply AncOr.anc); · decide +kernel)
      | with_reducible refine AncOr.go ?_)
    have h5lt := nth_lt hrow5
    have h6lt := nth_lt hrow6
    have h7 : nth (setN H3 id5 .gone ++ [.rows ((framesL (l.take (i + 1))).map byteRowD)]) id7 = some (.rows ((framesL (l.take (i + 1))).map byteRowD)) := nth_new (by rw [hid7, setN_length])
    have e7 : (List.take (framesL (l.take i)).length (List.drop 0 (List.map byteRowD (framesL (l.take i)))) ++ ((frameL x).map byteRow).map (·.map D.p)) = (framesL (l.take (i + 1))).map byteRowD := by
      rw [List.drop_zero, List.take_of_length_le (by rw [List.length_map]; exact Nat.le_refl _), rows_app', hfs]
    have e8 : (List.take i (List.drop 0 (((endsL l i).map intRow).map (·.map D.p))) ++ [intRow (framesL (l.take (i + 1))).length].map (·.map D.p)) = ((endsL l (i + 1)).map intRow).map (·.map D.p) := by
      rw [List.drop_zero, List.take_of_length_le (by rw [List.length_map, List.length_map, endsL_len]; exact Nat.le_refl _), endsL_succ, List.map_append, List.map_append]; rfl
    rw [e7]
    rw [e7] at hid8
    refine Run.keep _ ?_ (ih (i + 1) _ _ (by omega) ⟨id7, id8, rfl, nth_app (nth_setN_ne (by omega) h7), ?_, ?_, hsm', by omega⟩)
    · refine ⟨rfl, rfl, ?_, rfl, slot64 (by omega) (by omega) (by omega), trivial⟩
      rw [hnn]; rfl
    · rw [e8]; exact nth_new (by rw [hid8, setN_length])
    · rw [hid8, List.length_append, setN_length]; simp; omega
  · obtain rfl : i = l.length := by omega
    rw [List.take_length] at hrow5 hsm
    rw [List.take_length]
    have hfl : (framesL l).length ≤ 12 * 308 := by
      have := framesL_small _ hsm; omega
    refine Run.frz (ps := (framesL l).map byteRow) 5 rfl hrow5 (by rw [List.drop_zero, List.take_of_length_le (by simp), byteRow_map]) (by simp) byteRow_one ?_
    refine Run.frz (ps := (endsL l l.length).map intRow) 6 rfl (nth_setN_ne hne hrow6) (by rw [List.drop_zero, List.take_of_length_le (by simp [endsL_len])]) (by simp [endsL_len]) (fun r hr => by obtain ⟨y, _, rfl⟩ := List.mem_map.1 hr; rfl) ?_
    refine Run.keep [(0, .p (.lst (l.map strRow))), (1, .p (.int .u16 c)), (5, .p (.lst ((framesL l).map byteRow))), (6, .p (.lst ((endsL l l.length).map intRow))), (7, i64 (l.length : Nat))] ⟨rfl, rfl, rfl, rfl, rfl, trivial⟩ ?_
    refine Run.walk hm Try.func11 300 ?_
    repeat' (first
      | ((with_reducible apply Onw.mk); conv => whnf)
      | (with_reducible first | apply Br.tt | apply Br.ff | apply Br.no)
      | ((with_reducible apply Br.t); · assumption)
      | ((with_reducible apply Br.f); · assumption)
      | ((with_reducible apply Br.dt); · exact ab_known)
      | ((with_reducible apply Br.df); · exact ab_known)
      | (with_reducible first | refine Br.dec (fun hc => ?_) (fun hc => ?_) | refine Br.mk (fun hc => ?_) (fun hc => ?_))
      | ((with_reducible first | apply NeedRows.mk | apply NeedMap.mk | apply NeedIter.mk); · exact ab_look)
      | ((with_reducible apply NeedLen.mk); · first | assumption | rfl)
      | ((with_reducible apply NeedRow.mk); · exact ab_lookR)
      | ((with_reducible apply DrawG.mk (List.replicate 60 false)); · decide +kernel)
      | (with_reducible first | refine NewP.mk (fun id hid => ?_) | refine NilP.mk (fun e he => ?_))
      | (with_reducible first | exact trivial | exact And.intro rfl rfl)
      | ((with_reducible apply PreP.mk); · exact ab_asked)
      | refine Exists.intro _ (PreP.mk (bytesOf_lst _) ?_)
      | refine PreP.mk (lenD_lst _) ?_
      | (with_reducible first | refine PreP.mk ?_ ?_ | refine BothP.mk ?_ ?_)
      | ((with_reducible apply AncOr.anc); · decide +kernel)
      | with_reducible refine AncOr.go ?_)
    refine CallOK.go (c36 _ (framesL l) (by omega)) (fun r H3 hr => ?_)
    have hsc : scanL (framesL l) = (l, []) := scanL_framesE l (fun s hs => by have := hsm s hs; omega)
    rw [hsc] at hr
    obtain ⟨rfl, rfl⟩ := hr
    have hlb : (((framesL l).map byteRow).length : Int) = (framesL l).length := by simp
    have hat : (((framesL l).length - ([] : List UInt8).length : Nat) : Int) = (((framesL l).map byteRow).length : Int) := by simp
    repeat' (first
      | ((with_reducible apply Onw.mk); conv => whnf)
      | (with_reducible first | apply Br.tt | apply Br.ff | apply Br.no)
      | ((with_reducible apply Br.t); · assumption)
      | ((with_reducible apply Br.f); · assumption)
      | ((with_reducible apply Br.dt); · exact ab_known)
      | ((with_reducible apply Br.df); · exact ab_known)
      | (with_reducible first | refine Br.dec (fun hc => ?_) (fun hc => ?_) | refine Br.mk (fun hc => ?_) (fun hc => ?_))
      | ((with_reducible first | apply NeedRows.mk | apply NeedMap.mk | apply NeedIter.mk); · exact ab_look)
      | ((with_reducible apply NeedLen.mk); · first | assumption | rfl)
      | ((with_reducible apply NeedRow.mk); · exact ab_lookR)
      | ((with_reducible apply DrawG.mk (List.replicate 60 false)); · decide +kernel)
      | (with_reducible first | refine NewP.mk (fun id hid => ?_) | refine NilP.mk (fun e he => ?_))
      | (with_reducible first | exact trivial | exact And.intro rfl rfl)
      | ((with_reducible apply PreP.mk); · exact ab_asked)
      | refine Exists.intro _ (PreP.mk (bytesOf_lst _) ?_)
      | refine PreP.mk (lenD_lst _) ?_
      | (with_reducible first | refine PreP.mk ?_ ?_ | refine BothP.mk ?_ ?_)
      | ((with_reducible apply AncOr.anc); · decide +kernel)
      | with_reducible refine AncOr.go ?_)
    refine CallOK.go (c40 _ l l (by omega)) (fun r H3 hr => ?_)
    obtain ⟨rfl, rfl⟩ := hr
    rw [decide_eq_true (rfl : l = l)]
    repeat' (first
      | ((with_reducible apply Onw.mk); conv => whnf)
      | (with_reducible first | apply Br.tt | apply Br.ff | apply Br.no)
      | ((with_reducible apply Br.t); · assumption)
      | ((with_reducible apply Br.f); · assumption)
      | ((with_reducible apply Br.dt); · exact ab_known)
      | ((with_reducible apply Br.df); · exact ab_known)
      | (with_reducible first | refine Br.dec (fun hc => ?_) (fun hc => ?_) | refine Br.mk (fun hc => ?_) (fun hc => ?_))
      | ((with_reducible first | apply NeedRows.mk | apply NeedMap.mk | apply NeedIter.mk); · exact ab_look)
      | ((with_reducible apply NeedLen.mk); · first | assumption | rfl)
      | ((with_reducible apply NeedRow.mk); · exact ab_lookR)
      | ((with_reducible apply DrawG.mk (List.replicate 60 false)); · decide +kernel)
      | (with_reducible first | refine NewP.mk (fun id hid => ?_) | refine NilP.mk (fun e he => ?_))
      | (with_reducible first | exact trivial | exact And.intro rfl rfl)
      | ((with_reducible apply PreP.mk); · exact ab_asked)
      | refine Exists.intro _ (PreP.mk (bytesOf_lst _) ?_)
      | refine PreP.mk (lenD_lst _) ?_
      | (with_reducible first | refine PreP.mk ?_ ?_ | refine BothP.mk ?_ ?_)
      | ((with_reducible apply AncOr.anc); · decide +kernel)
      | with_reducible refine AncOr.go ?_)
    · rw [hlb, wrap64 (by omega) (by omega)]; omega
    obtain ⟨k, hk, hkl⟩ : ∃ k : Nat, (IntKind.i64.wrap (c : Int)).tmod (IntKind.i64.wrap ((((framesL l).map byteRow).length : Int) + 1)) = (k : Int) ∧ k ≤ (framesL l).length := by
      refine ⟨c % ((framesL l).length + 1), ?_, by have := Nat.mod_lt c (show 0 < (framesL l).length + 1 by omega); omega⟩
      rw [hlb, wrap64 (n := (c : Int)) (by omega) (by omega), wrap64 (by omega) (by omega), Int.tmod_eq_emod_of_nonneg (by omega)]
      simp
    have hsm4 : ∀ s ∈ l, s.length ≤ 4000 := fun s hs => by have := hsm s hs; omega
    refine Run.keep [(0, .p (.lst (l.map strRow))), (5, .p (.lst ((framesL l).map byteRow))), (6, .p (.lst ((endsL l l.length).map intRow))), (10, i64 (k : Nat)), (11, i64 (0 : Nat)), (12, i64 (framesL (l.take 0)).length)] ⟨rfl, rfl, rfl, congrArg (fun x => some (i64 x)) hk, rfl, rfl, trivial⟩ ?_
    refine Run.loop (fun (n : Nat) => [(0, .p (.lst (l.map strRow))), (5, .p (.lst ((framesL l).map byteRow))), (6, .p (.lst ((endsL l l.length).map intRow))), (10, i64 (k : Nat)), (11, i64 (n : Nat)), (12, i64 (framesL (l.take n)).length)]) (fun _ => (setN (setN H2 id5 .gone) id6 .gone)) (fun n => n ≤ l.length ∧ (framesL (l.take n)).length ≤ k) (fun n => l.length - n) ?_ 0 ⟨Nat.zero_le _, by simp [framesL]⟩
    rintro n ⟨hnl, hnk⟩ ih
    rcases Nat.lt_or_ge n l.length with hn | hn
    · obtain ⟨x, hx⟩ : ∃ x, l[n]? = some x := ⟨_, List.getElem?_eq_getElem hn⟩
      have hfs := framesL_succ hx
      have hri : Ab.rowAt ((endsL l l.length).map intRow) (n : Int).toNat = intRow (framesL (l.take (n + 1))).length := rowAt_map (endsL_at l hn)
      have hrp : 0 ≤ (n : Int) ∧ (n : Int) < ((endsL l l.length).map intRow).length ∧ (Ab.rowAt ((endsL l l.length).map intRow) (n : Int).toNat).length = 1 := ⟨by omega, by rw [List.length_map, endsL_len]; omega, by rw [hri]; rfl⟩
      rcases Nat.lt_or_ge k (framesL (l.take (n + 1))).length with hkn | hkn
      · have hcut := scanL_cut l n k hsm4 hnk (fun s hs => by rw [hx] at hs; injection hs with hs; subst hs; have := hkn; rw [hfs, List.length_append, frameL_len] at this; omega) hkl
        have hlk : ((framesL l).take k).length = k := by rw [List.length_take]; omega
        have ek : List.drop (Int.toNat 0) (List.take (k : Int).toNat ((framesL l).map byteRow)) = ((framesL l).take k).map byteRow := by simp [List.map_take]
        have en : List.drop (Int.toNat 0) (List.take (n : Int).toNat (l.map strRow)) = (l.take n).map strRow := by simp [List.map_take]
        refine Run.walk hm Try.func11 300 ?_
        repeat' (first
          | ((with_reducible apply Onw.mk); conv => whnf)
          | (with_reducible first | apply Br.tt | apply Br.ff | apply Br.no)
          | ((with_reducible apply Br.t); · assumption)
          | ((with_reducible apply Br.f); · assumption)
          | ((with_reducible apply Br.dt); · exact ab_known)
          | ((with_reducible apply Br.df); · exact ab_known)
          | (with_reducible first | refine Br.dec (fun hc => ?_) (fun hc => ?_) | refine Br.mk (fun hc => ?_) (fun hc => ?_))
          | (refine PreP.mk hrp ?_)
          | (refine EqP.mk hri ?_)
          | ((with_reducible first | apply NeedRows.mk | apply NeedMap.mk | apply NeedIter.mk); · exact ab_look)
          | ((with_reducible apply NeedLen.mk); · first | assumption | rfl)
          | ((with_reducible apply NeedRow.mk); · exact ab_lookR)
          | ((with_reducible apply DrawG.mk (List.replicate 60 false)); · decide +kernel)
          | (with_reducible first | refine NewP.mk (fun id hid => ?_) | refine NilP.mk (fun e he => ?_))
          | (with_reducible first | exact trivial | exact And.intro rfl rfl)
          | ((with_reducible apply PreP.mk); · exact ab_asked)
          | refine Exists.intro _ (PreP.mk (bytesOf_lst _) ?_)
          | refine PreP.mk (lenD_lst _) ?_
          | (with_reducible first | refine PreP.mk ?_ ?_ | refine BothP.mk ?_ ?_)
          | ((with_reducible apply AncOr.anc); · decide +kernel)
          | with_reducible refine AncOr.go ?_)
        · exact ⟨by omega, by omega, by rw [hlb]; omega, byteRow_one⟩
        rw [ek]
        refine CallOK.go (c36 _ ((framesL l).take k) (by omega)) (fun r H3 hr => ?_)
        obtain ⟨rfl, rfl⟩ := hr
        rw [hcut.1, hcut.2, hlk, show k - (k - (framesL (l.take n)).length) = (framesL (l.take n)).length by omega]
        repeat' (first
          | ((with_reducible apply Onw.mk); conv => whnf)
          | (with_reducible first | apply Br.tt | apply Br.ff | apply Br.no)
          | ((with_reducible apply Br.t); · assumption)
          | ((with_reducible apply Br.f); · assumption)
          | ((with_reducible apply Br.dt); · exact ab_known)
          | ((with_reducible apply Br.df); · exact ab_known)
          | (with_reducible first | refine Br.dec (fun hc => ?_) (fun hc => ?_) | refine Br.mk (fun hc => ?_) (fun hc => ?_))
          | ((with_reducible first | apply NeedRows.mk | apply NeedMap.mk | apply NeedIter.mk); · exact ab_look)
          | ((with_reducible apply NeedLen.mk); · first | assumption | rfl)
          | ((with_reducible apply NeedRow.mk); · exact ab_lookR)
          | ((with_reducible apply DrawG.mk (List.replicate 60 false)); · decide +kernel)
          | (with_reducible first | refine NewP.mk (fun id hid => ?_) | refine NilP.mk (fun e he => ?_))
          | (with_reducible first | exact trivial | exact And.intro rfl rfl)
          | ((with_reducible apply PreP.mk); · exact ab_asked)
          | refine Exists.intro _ (PreP.mk (bytesOf_lst _) ?_)
          | refine PreP.mk (lenD_lst _) ?_
          | (with_reducible first | refine PreP.mk ?_ ?_ | refine BothP.mk ?_ ?_)
          | ((with_reducible apply AncOr.anc); · decide +kernel)
          | with_reducible refine AncOr.go ?_)
        · exact ⟨by omega, by omega, by rw [hll]; omega, fun r hr => by obtain ⟨y, _, rfl⟩ := List.mem_map.1 hr; rfl⟩
        rw [en]
        refine CallOK.go (c40 _ (l.take n) (l.take n) (by rw [List.length_take]; omega)) (fun r H3 hr => ?_)
        obtain ⟨rfl, rfl⟩ := hr
        repeat' (first
          | ((with_reducible apply Onw.mk); conv => whnf)
          | (with_reducible first | apply Br.tt | apply Br.ff | apply Br.no)
          | ((with_reducible apply Br.t); · assumption)
          | ((with_reducible apply Br.f); · assumption)
          | ((with_reducible apply Br.dt); · exact ab_known)
          | ((with_reducible apply Br.df); · exact ab_known)
          | (with_reducible first | refine Br.dec (fun hc => ?_) (fun hc => ?_) | refine Br.mk (fun hc => ?_) (fun hc => ?_))
          | ((with_reducible first | apply NeedRows.mk | apply NeedMap.mk | apply NeedIter.mk); · exact ab_look)
          | ((with_reducible apply NeedLen.mk); · first | assumption | rfl)
          | ((with_reducible apply NeedRow.mk); · exact ab_lookR)
          | ((with_reducible apply DrawG.mk (List.replicate 60 false)); · decide +kernel)
          | (with_reducible first | refine NewP.mk (fun id hid => ?_) | refine NilP.mk (fun e he => ?_))
          | (with_reducible first | exact trivial | exact And.intro rfl rfl)
          | ((with_reducible apply PreP.mk); · exact ab_asked)
          | refine Exists.intro _ (PreP.mk (bytesOf_lst _) ?_)
          | refine PreP.mk (lenD_lst _) ?_
          | (with_reducible first | refine PreP.mk ?_ ?_ | refine BothP.mk ?_ ?_)
          | ((with_reducible apply AncOr.anc); · decide +kernel)
          | with_reducible refine AncOr.go ?_)
        exact congrArg boolD (decide_eq_true rfl)
      · refine Run.walk hm Try.func11 300 ?_
        repeat' (first
          | ((with_reducible apply Onw.mk); conv => whnf)
          | (with_reducible first | apply Br.tt | apply Br.ff | apply Br.no)
          | ((with_reducible apply Br.t); · assumption)
          | ((with_reducible apply Br.f); · assumption)
          | ((with_reducible apply Br.dt); · exact ab_known)
          | ((with_reducible apply Br.df); · exact ab_known)
          | (with_reducible first | refine Br.dec (fun hc => ?_) (fun hc => ?_) | refine Br.mk (fun hc => ?_) (fun hc => ?_))
          | (refine PreP.mk hrp ?_)
          | (refine EqP.mk hri ?_)
          | ((with_reducible first | apply NeedRows.mk | apply NeedMap.mk | apply NeedIter.mk); · exact ab_look)
          | ((with_reducible apply NeedLen.mk); · first | assumption | rfl)
          | ((with_reducible apply NeedRow.mk); · exact ab_lookR)
          | ((with_reducible apply DrawG.mk (List.replicate 60 false)); · decide +kernel)
          | (with_reducible first | refine NewP.mk (fun id hid => ?_) | refine NilP.mk (fun e he => ?_))
          | (with_reducible first | exact trivial | exact And.intro rfl rfl)
          | ((with_reducible apply PreP.mk); · exact ab_asked)
          | refine Exists.intro _ (PreP.mk (bytesOf_lst _) ?_)
          | refine PreP.mk (lenD_lst _) ?_
          | (with_reducible first | refine PreP.mk ?_ ?_ | refine BothP.mk ?_ ?_)
          | ((with_reducible apply AncOr.anc); · decide +kernel)
          | with_reducible refine AncOr.go ?_)
        refine Run.keep _ ?_ (ih (n + 1) ⟨by omega, hkn⟩ (by omega))
        exact ⟨rfl, rfl, rfl, rfl, slot64 (by omega) (by omega) (by omega), rfl, trivial⟩
    · obtain rfl : n = l.length := by omega
      have hcut := scanL_cut l l.length k hsm4 hnk (fun s hs => by rw [List.getElem?_eq_none (Nat.le_refl _)] at hs; cases hs) hkl
      have hlk : ((framesL l).take k).length = k := by rw [List.length_take]; omega
      have ek : List.drop (Int.toNat 0) (List.take (k : Int).toNat ((framesL l).map byteRow)) = ((framesL l).take k).map byteRow := by simp [List.map_take]
      have en : List.drop (Int.toNat 0) (List.take (l.length : Int).toNat (l.map strRow)) = (l.take l.length).map strRow := by rw [List.map_take]; rfl
      refine Run.walk hm Try.func11 300 ?_
      repeat' (first
        | ((with_reducible apply Onw.mk); conv => whnf)
        | (with_reducible first | apply Br.tt | apply Br.ff | apply Br.no)
        | ((with_reducible apply Br.t); · assumption)
        | ((with_reducible apply Br.f); · assumption)
        | ((with_reducible apply Br.dt); · exact ab_known)
        | ((with_reducible apply Br.df); · exact ab_known)
        | (with_reducible first | refine Br.dec (fun hc => ?_) (fun hc => ?_) | refine Br.mk (fun hc => ?_) (fun hc => ?_))
        | ((with_reducible first | apply NeedRows.mk | apply NeedMap.mk | apply NeedIter.mk); · exact ab_look)
        | ((with_reducible apply NeedLen.mk); · first | assumption | rfl)
        | ((with_reducible apply NeedRow.mk); · exact ab_lookR)
        | ((with_reducible apply DrawG.mk (List.replicate 60 false)); · decide +kernel)
        | (with_reducible first | refine NewP.mk (fun id hid => ?_) | refine NilP.mk (fun e he => ?_))
        | (with_reducible first | exact trivial | exact And.intro rfl rfl)
        | ((with_reducible apply PreP.mk); · exact ab_asked)
        | refine Exists.intro _ (PreP.mk (bytesOf_lst _) ?_)
        | refine PreP.mk (lenD_lst _) ?_
        | (with_reducible first | refine PreP.mk ?_ ?_ | refine BothP.mk ?_ ?_)
        | ((with_reducible apply AncOr.anc); · decide +kernel)
        | with_reducible refine AncOr.go ?_)
      · exact ⟨by omega, by omega, by rw [hlb]; omega, byteRow_one⟩
      rw [ek]
      refine CallOK.go (c36 _ ((framesL l).take k) (by omega)) (fun r H3 hr => ?_)
      obtain ⟨rfl, rfl⟩ := hr
      rw [hcut.1, hcut.2, hlk, show k - (k - (framesL (l.take l.length)).length) = (framesL (l.take l.length)).length by omega]
      repeat' (first
        | ((with_reducible apply Onw.mk); conv => whnf)
        | (with_reducible first | apply Br.tt | apply Br.ff | apply Br.no)
        | ((with_reducible apply Br.t); · assumption)
        | ((with_reducible apply Br.f); · assumption)
        | ((with_reducible apply Br.dt); · exact ab_known)
        | ((with_reducible apply Br.df); · exact ab_known)
        | (with_reducible first | refine Br.dec (fun hc => ?_) (fun hc => ?_) | refine Br.mk (fun hc => ?_) (fun hc => ?_))
        | ((with_reducible first | apply NeedRows.mk | apply NeedMap.mk | apply NeedIter.mk); · exact ab_look)
        | ((with_reducible apply NeedLen.mk); · first | assumption | rfl)
        | ((with_reducible apply NeedRow.mk); · exact ab_lookR)
        | ((with_reducible apply DrawG.mk (List.replicate 60 false)); · decide +kernel)
        | (with_reducible first | refine NewP.mk (fun id hid => ?_) | refine NilP.mk (fun e he => ?_))
        | (with_reducible first | exact trivial | exact And.intro rfl rfl)
        | ((with_reducible apply PreP.mk); · exact ab_asked)
        | refine Exists.intro _ (PreP.mk (bytesOf_lst _) ?_)
        | refine PreP.mk (lenD_lst _) ?_
        | (with_reducible first | refine PreP.mk ?_ ?_ | refine BothP.mk ?_ ?_)
        | ((with_reducible apply AncOr.anc); · decide +kernel)
        | with_reducible refine AncOr.go ?_)
      · exact ⟨by omega, by omega, by rw [hll]; omega, fun r hr => by obtain ⟨y, _, rfl⟩ := List.mem_map.1 hr; rfl⟩
      rw [en]
      refine CallOK.go (c40 _ (l.take l.length) (l.take l.length) (by rw [List.length_take]; omega)) (fun r H3 hr => ?_)
      obtain ⟨rfl, rfl⟩ := hr
      repeat' (first
        | ((with_reducible apply Onw.mk); conv => whnf)
        | (with_reducible first | apply Br.tt | apply Br.ff | apply Br.no)
        | ((with_reducible apply Br.t); · assumption)
        | ((with_reducible apply Br.f); · assumption)
        | ((with_reducible apply Br.dt); · exact ab_known)
        | ((with_reducible apply Br.df); · exact ab_known)
        | (with_reducible first | refine Br.dec (fun hc => ?_) (fun hc => ?_) | refine Br.mk (fun hc => ?_) (fun hc => ?_))
        | ((with_reducible first | apply NeedRows.mk | apply NeedMap.mk | apply NeedIter.mk); · exact ab_look)
        | ((with_reducible apply NeedLen.mk); · first | assumption | rfl)
        | ((with_reducible apply NeedRow.mk); · exact ab_lookR)
        | ((with_reducible apply DrawG.mk (List.replicate 60 false)); · decide +kernel)
        | (with_reducible first | refine NewP.mk (fun id hid => ?_) | refine NilP.mk (fun e he => ?_))
        | (with_reducible first | exact trivial | exact And.intro rfl rfl)
        | ((with_reducible apply PreP.mk); · exact ab_asked)
        | refine Exists.intro _ (PreP.mk (bytesOf_lst _) ?_)
        | refine PreP.mk (lenD_lst _) ?_
        | (with_reducible first | refine PreP.mk ?_ ?_ | refine BothP.mk ?_ ?_)
        | ((with_reducible apply AncOr.anc); · decide +kernel)
        | with_reducible refine AncOr.go ?_)
      exact congrArg boolD (decide_eq_true rfl)
end Go.Proofs.Ytanknokhbfijdaa
