/- What functions of the disk, and of the laws over it, do. Conditions: those that each theorem names. -/
import Derived.Test.YtanknokhbfijdaaD40
set_option linter.unusedVariables false
set_option linter.unusedSimpArgs false
namespace Go.Proofs.Ytanknokhbfijdaa
open Go.Ab
set_option maxRecDepth 100000
set_option maxHeartbeats 1000000
attribute [local irreducible] Run CallOK DetCall Br PreP BothP AncOr Onw NeedRows NeedMap NeedRow NeedLen NilP NeedIter RoundP EntryP EqP OptP NewP NewSlice NewMade AppTo DrawG anc drawB
def nLog : List UInt8 := [108, 111, 103]
theorem makeM_new (q : Int) (hq : 0 ≤ q) (hq2 : q ≤ 1000000) (st : Int) : makeM ⟨st, 0, q, []⟩ nLog = (0, ⟨st + 1 + 1, 0, q, [⟨nLog, [], 0⟩]⟩) := by
  have hth : thereM ⟨st, 0, q, []⟩ nLog = false := by simp [thereM]
  have hR : appendR ⟨st, 0, q, []⟩ nLog [] = 0 := by
    rw [appR_val (by simp [offB]) (by decide) hq2 hq (by simp [usedM]) (by simp), if_neg]
    simp [usedM]; omega
  have hA : appendM ⟨st, 0, q, []⟩ nLog [] = ⟨st + 1, 0, q, [⟨nLog, [], 0⟩]⟩ := by unfold appendM; rw [hR]; rfl
  have hE : errM ⟨st + 1, 0, q, [⟨nLog, [], 0⟩]⟩ nLog = 0 := by unfold errM; rw [find_one]; simp [offB]
  have hS : syncM ⟨st + 1, 0, q, [⟨nLog, [], 0⟩]⟩ nLog = ⟨st + 1 + 1, 0, q, [⟨nLog, [], 0⟩]⟩ := by unfold syncM; rw [hE]; simp [stepM]
  unfold makeM
  rw [hth]
  simp [hR, hA, hE, hS]
theorem DsOK.one {st q : Int} {name b : List UInt8} {kp : Nat} (h0 : 0 ≤ st) (h1 : st < 1000000000000) (hb : b.length ≤ 10000000) : DsOK ⟨st, 0, q, [⟨name, b, kp⟩]⟩ := ⟨h0, h1, by simp [usedM]; omega, by simp⟩
theorem scanL_framesE (l : List (List UInt8)) (h : ∀ s ∈ l, s.length ≤ 4000) : scanL (framesL l) = (l, []) := by
  have := scanL_frames l [] h
  rw [List.append_nil, scanL_short [] (by simp)] at this
  simpa using this
theorem framesL_snoc (l : List (List UInt8)) (s : List UInt8) : framesL l ++ frameL s = framesL (l ++ [s]) := by simp [framesL]
/-- The disk of a log of so many records. -/
def logDs (st q : Int) (recs : List (List UInt8)) : Ds := ⟨st, 0, q, [⟨nLog, framesL recs, (framesL recs).length⟩]⟩
structure LogIs (H : Heap) (l d : Nat) (st q : Int) (recs : List (List UInt8)) (ids : List Nat) : Prop where
  row : nth H l = some (logRow d nLog recs.length false)
  disk : DiskIs H d (logDs st q recs) ids
  out : l ∉ ids
theorem logDs_ok {st q : Int} {recs : List (List UInt8)} (h0 : 0 ≤ st) (h1 : st < 1000000000000) (hb : (framesL recs).length ≤ 10000000) : DsOK (logDs st q recs) := DsOK.one h0 h1 hb
theorem a43_log {H : Heap} {d : Nat} {q st : Int} {ids : List Nat} (h : DiskIs H d ⟨st, 0, q, []⟩ ids) (hq : 0 ≤ q) (hq2 : q ≤ 1000000) (h0 : 0 ≤ st) (h1 : st < 999999998000) :
    CallOK Try.prog 43 [.ptr d 0 0, .p (.str nLog)] H (fun r H' => ∃ l ids', r = .tup [.ptr l 0 0, i64 0] ∧ LogIs H' l d (st + 1 + 1) q [] ids' ∧ Goes H ids H' (l :: ids')) :=
  (a43 h ⟨h0, by simp only []; omega, by simp [usedM], by simp⟩ h1 (by simp) nLog (by decide)).mono fun r H' hr => by
    rw [makeM_new q hq hq2 st] at hr
    obtain ⟨ids1, hd1, hg1, hor⟩ := hr
    rcases hor with ⟨_, l, rfl, hlog1, hl1, hlo1⟩ | ⟨hbad, _⟩
    · exact ⟨l, ids1, rfl, ⟨hlog1, hd1, hlo1⟩, hg1.out, fun j hj => by
        rcases List.mem_cons.1 hj with rfl | hj
        · exact .inr hl1
        · exact hg1.ids j hj, hg1.len⟩
    · exact absurd rfl hbad
theorem a42_ok {H : Heap} {l d : Nat} {st q : Int} {recs : List (List UInt8)} {ids : List Nat} (h : LogIs H l d st q recs ids) (h0 : 0 ≤ st) (h1 : st < 999999998000) (hq2 : q ≤ 1000000) (rec : List UInt8) (hr' : rec.length ≤ 4000)
    (hq : ((framesL recs).length : Int) + rec.length + 8 ≤ q) (hn : recs.length ≤ 1000000) :
    CallOK Try.prog 42 [.ptr l 0 0, .p (.str rec)] H (fun r H' => r = i64 0 ∧ ∃ ids', LogIs H' l d (st + 1 + 1) q (recs ++ [rec]) ids' ∧ Goes H (l :: ids) H' (l :: ids')) :=
  (a42 h.row h.disk h.out (logDs_ok h0 (by omega) (by omega)) (by omega) (by omega) (by decide) rec (by omega)).mono fun r H' hr => by
    unfold logDs at hr
    rw [logApp_one (by decide) hr' hq hq2] at hr
    obtain ⟨rfl, hlog2, ids2, hd2, hg2, hout⟩ := hr
    simp only [framesL_snoc] at hd2
    exact ⟨rfl, ids2, ⟨by simpa using hlog2, hd2, hout⟩, hg2⟩
theorem a42_full {H : Heap} {l d : Nat} {st q : Int} {recs : List (List UInt8)} {ids : List Nat} (h : LogIs H l d st q recs ids) (h0 : 0 ≤ st) (h1 : st < 999999998000) (hq2 : q ≤ 1000000) (rec : List UInt8) (hr' : rec.length ≤ 4000)
    (hq0 : ((framesL recs).length : Int) ≤ q) (hq : q < ((framesL recs).length : Int) + rec.length + 8) (hn : recs.length ≤ 1000000) :
    CallOK Try.prog 42 [.ptr l 0 0, .p (.str rec)] H (fun r H' => r = i64 211 ∧ ∃ ids', LogIs H' l d (st + 1) q recs ids' ∧ Goes H (l :: ids) H' (l :: ids')) :=
  (a42 h.row h.disk h.out (logDs_ok h0 (by omega) (by omega)) (by omega) (by omega) (by decide) rec (by omega)).mono fun r H' hr => by
    unfold logDs at hr
    rw [logApp_full (by decide) hr' hq0 hq hq2] at hr
    obtain ⟨rfl, hlog2, ids2, hd2, hg2, hout⟩ := hr
    exact ⟨rfl, ids2, ⟨hlog2, hd2, hout⟩, hg2⟩
theorem a18_log {H : Heap} {d : Nat} {st q : Int} {recs : List (List UInt8)} {ids : List Nat} (h : DiskIs H d (logDs st q recs) ids) (h0 : 0 ≤ st) (h1 : st < 1000000000000) (hb : (framesL recs).length ≤ 10000000) (cs : List UInt8) (hcs : cs.length ≤ 100000) :
    CallOK Try.prog 18 [.ptr d 0 0, .p (.lst (cs.map byteRow))] H (fun r H' => r = .tup [] ∧ ∃ ids', DiskIs H' d (logDs st q recs) ids' ∧ Goes H ids H' ids') :=
  (a18 h (logDs_ok h0 h1 hb) cs hcs).mono fun r H' hr => by
    have e : crashM (logDs st q recs) cs = logDs st q recs := crash_kept st q nLog (framesL recs) cs
    rw [e] at hr; exact hr
theorem a41_log {H : Heap} {d : Nat} {st q : Int} {recs : List (List UInt8)} {ids : List Nat} (h : DiskIs H d (logDs st q recs) ids) (hb : (framesL recs).length ≤ 1000000) (hs : ∀ s ∈ recs, s.length ≤ 4000) :
    CallOK Try.prog 41 [.ptr d 0 0, .p (.str nLog)] H (fun r H' => (∃ l, H' = H ++ l) ∧ ∃ lid, H.length ≤ lid ∧ LogIs H' lid d st q recs ids ∧ r = .tup [.ptr lid 0 0, .p (.lst (recs.map strRow)), i64 0]) :=
  (a41 h nLog (by simp [logDs, offB]) (find_one nLog _ _ st q) hb (by rw [scanL_framesE recs hs])).mono fun r H' hr => by
    have e : (scanL (framesL recs)).1 = recs := by rw [scanL_framesE recs hs]
    obtain ⟨⟨l, rfl⟩, lid, hlid, hrow, rfl⟩ := hr
    simp only [e] at hrow ⊢
    exact ⟨⟨l, rfl⟩, lid, hlid, ⟨hrow, h.move (Goes.app H l []) (fun j _ hj => by cases hj), fun he => by have := h.lt lid he; omega⟩, rfl⟩
theorem frameL_one (s : List UInt8) : frameL s = framesL [s] := by simp [framesL]
theorem s35 (H : Heap) : Ab.Spec Try.prog 35 [] H (fun r H' => r = boolD true ∧ ∃ l, H' = H ++ l) := by
  refine Ab.Spec.walk hm Try.func35 (by kernel_rfl) 300 ?_
  repeat' (first
    | ((with_reducible apply Onw.mk); conv => whnf)
    | (with_reducible first | apply Br.tt | apply Br.ff | apply Br.no)
    | ((with_reducible apply Br.t); · assumption)
    | ((with_reducible apply Br.f); · assumption)
    | ((with_reducible apply Br.dt); · exact ab_known)
    | ((with_reducible apply Br.df); · exact ab_known)
    | (with_reducible first | refine Br.dec (fun hc => ?_) (fun hc => ?_) | refine Br.mk (fun hc => ?_) (fun hc => ?_))
    | ((with_reducible first | apply NeedRows.mk | apply NeedMap.mk | apply NeedIter.mk); · exact ab_look)
    | ((with_reducible apply NeedLen.mk); · first | assumption | rfl)
    | ((with_reducible apply NeedRow.mk); · exact ab_lookR)
    | ((with_reducible apply DrawG.mk (List.replicate 60 false)); · decide +kernel)
    | (with_reducible first | refine NewP.mk (fun id hid => ?_) | refine NilP.mk (fun e he => ?_))
    | (with_reducible first | exact trivial | exact And.intro rfl rfl)
    | ((with_reducible apply PreP.mk); · exact ab_asked)
    | refine Exists.intro _ (PreP.mk (bytesOf_lst _) ?_)
    | refine PreP.mk (lenD_lst _) ?_
    | (with_reducible first | refine PreP.mk ?_ ?_ | refine BothP.mk ?_ ?_)
    | ((with_reducible apply AncOr.anc); · decide +kernel)
    | with_reducible refine AncOr.go ?_)
  refine CallOK.go (a15 _ _) (fun r H0 hr => ?_)
  obtain ⟨d, ids0, rfl, hd0, hg0⟩ := hr
  repeat' (first
    | ((with_reducible apply Onw.mk); conv => whnf)
    | (with_reducible first | apply Br.tt | apply Br.ff | apply Br.no)
    | ((with_reducible apply Br.t); · assumption)
    | ((with_reducible apply Br.f); · assumption)
    | ((with_reducible apply Br.dt); · exact ab_known)
    | ((with_reducible apply Br.df); · exact ab_known)
    | (with_reducible first | refine Br.dec (fun hc => ?_) (fun hc => ?_) | refine Br.mk (fun hc => ?_) (fun hc => ?_))
    | ((with_reducible first | apply NeedRows.mk | apply NeedMap.mk | apply NeedIter.mk); · exact ab_look)
    | ((with_reducible apply NeedLen.mk); · first | assumption | rfl)
    | ((with_reducible apply NeedRow.mk); · exact ab_lookR)
    | ((with_reducible apply DrawG.mk (List.replicate 60 false)); · decide +kernel)
    | (with_reducible first | refine NewP.mk (fun id hid => ?_) | refine NilP.mk (fun e he => ?_))
    | (with_reducible first | exact trivial | exact And.intro rfl rfl)
    | ((with_reducible apply PreP.mk); · exact ab_asked)
    | refine Exists.intro _ (PreP.mk (bytesOf_lst _) ?_)
    | refine PreP.mk (lenD_lst _) ?_
    | (with_reducible first | refine PreP.mk ?_ ?_ | refine BothP.mk ?_ ?_)
    | ((with_reducible apply AncOr.anc); · decide +kernel)
    | with_reducible refine AncOr.go ?_)
  refine CallOK.go (a43_log hd0 (by decide) (by decide) (by decide) (by decide)) (fun r H1 hr => ?_)
  obtain ⟨l, ids1, rfl, hL1, hg1⟩ := hr
  repeat' (first
    | ((with_reducible apply Onw.mk); conv => whnf)
    | (with_reducible first | apply Br.tt | apply Br.ff | apply Br.no)
    | ((with_reducible apply Br.t); · assumption)
    | ((with_reducible apply Br.f); · assumption)
    | ((with_reducible apply Br.dt); · exact ab_known)
    | ((with_reducible apply Br.df); · exact ab_known)
    | (with_reducible first | refine Br.dec (fun hc => ?_) (fun hc => ?_) | refine Br.mk (fun hc => ?_) (fun hc => ?_))
    | ((with_reducible first | apply NeedRows.mk | apply NeedMap.mk | apply NeedIter.mk); · exact ab_look)
    | ((with_reducible apply NeedLen.mk); · first | assumption | rfl)
    | ((with_reducible apply NeedRow.mk); · exact ab_lookR)
    | ((with_reducible apply DrawG.mk (List.replicate 60 false)); · decide +kernel)
    | (with_reducible first | refine NewP.mk (fun id hid => ?_) | refine NilP.mk (fun e he => ?_))
    | (with_reducible first | exact trivial | exact And.intro rfl rfl)
    | ((with_reducible apply PreP.mk); · exact ab_asked)
    | refine Exists.intro _ (PreP.mk (bytesOf_lst _) ?_)
    | refine PreP.mk (lenD_lst _) ?_
    | (with_reducible first | refine PreP.mk ?_ ?_ | refine BothP.mk ?_ ?_)
    | ((with_reducible apply AncOr.anc); · decide +kernel)
    | with_reducible refine AncOr.go ?_)
  refine CallOK.go (a42_ok hL1 (by decide) (by decide) (by decide) [97] (by decide) (by decide) (by decide)) (fun r H2 hr => ?_)
  obtain ⟨rfl, ids2, hL2, hg2⟩ := hr
  repeat' (first
    | ((with_reducible apply Onw.mk); conv => whnf)
    | (with_reducible first | apply Br.tt | apply Br.ff | apply Br.no)
    | ((with_reducible apply Br.t); · assumption)
    | ((with_reducible apply Br.f); · assumption)
    | ((with_reducible apply Br.dt); · exact ab_known)
    | ((with_reducible apply Br.df); · exact ab_known)
    | (with_reducible first | refine Br.dec (fun hc => ?_) (fun hc => ?_) | refine Br.mk (fun hc => ?_) (fun hc => ?_))
    | ((with_reducible first | apply NeedRows.mk | apply NeedMap.mk | apply NeedIter.mk); · exact ab_look)
    | ((with_reducible apply NeedLen.mk); · first | assumption | rfl)
    | ((with_reducible apply NeedRow.mk); · exact ab_lookR)
    | ((with_reducible apply DrawG.mk (List.replicate 60 false)); · decide +kernel)
    | (with_reducible first | refine NewP.mk (fun id hid => ?_) | refine NilP.mk (fun e he => ?_))
    | (with_reducible first | exact trivial | exact And.intro rfl rfl)
    | ((with_reducible apply PreP.mk); · exact ab_asked)
    | refine Exists.intro _ (PreP.mk (bytesOf_lst _) ?_)
    | refine PreP.mk (lenD_lst _) ?_
    | (with_reducible first | refine PreP.mk ?_ ?_ | refine BothP.mk ?_ ?_)
    | ((with_reducible apply AncOr.anc); · decide +kernel)
    | with_reducible refine AncOr.go ?_)
  refine CallOK.go (a42_ok hL2 (by decide) (by decide) (by decide) [] (by decide) (by simp [framesL, frameL_len]) (by decide)) (fun r H3 hr => ?_)
  obtain ⟨rfl, ids3, hL3, hg3⟩ := hr
  have hfl : (framesL [[97], []]).length = 17 := by simp [framesL, frameL_len]
  have hg03 : Goes H [] H3 (l :: ids3) := hg0.trans (hg1.trans (hg2.trans hg3))
  repeat' (first
    | ((with_reducible apply Onw.mk); conv => whnf)
    | (with_reducible first | apply Br.tt | apply Br.ff | apply Br.no)
    | ((with_reducible apply Br.t); · assumption)
    | ((with_reducible apply Br.f); · assumption)
    | ((with_reducible apply Br.dt); · exact ab_known)
    | ((with_reducible apply Br.df); · exact ab_known)
    | (with_reducible first | refine Br.dec (fun hc => ?_) (fun hc => ?_) | refine Br.mk (fun hc => ?_) (fun hc => ?_))
    | ((with_reducible first | apply NeedRows.mk | apply NeedMap.mk | apply NeedIter.mk); · exact ab_look)
    | ((with_reducible apply NeedLen.mk); · first | assumption | rfl)
    | ((with_reducible apply NeedRow.mk); · exact ab_lookR)
    | ((with_reducible apply DrawG.mk (List.replicate 60 false)); · decide +kernel)
    | (with_reducible first | refine NewP.mk (fun id hid => ?_) | refine NilP.mk (fun e he => ?_))
    | (with_reducible first | exact trivial | exact And.intro rfl rfl)
    | ((with_reducible apply PreP.mk); · exact ab_asked)
    | refine Exists.intro _ (PreP.mk (bytesOf_lst _) ?_)
    | refine PreP.mk (lenD_lst _) ?_
    | (with_reducible first | refine PreP.mk ?_ ?_ | refine BothP.mk ?_ ?_)
    | ((with_reducible apply AncOr.anc); · decide +kernel)
    | with_reducible refine AncOr.go ?_)
  refine CallOK.go ((a18_log hL3.disk (by decide) (by decide) (by simp [framesL, frameL_len]) [] (by decide)).args fun M env vs hr => ?_) (fun r H4 hr => ?_)
  · obtain ⟨v1, vs1, rfl, h1, hr⟩ := hr.cons_inv
    obtain ⟨v2, vs2, rfl, h2, hr⟩ := hr.cons_inv
    exact .cons h1 (.cons h2.nil_lst hr)
  obtain ⟨rfl, ids4, hd4, hg4⟩ := hr
  repeat' (first
    | ((with_reducible apply Onw.mk); conv => whnf)
    | (with_reducible first | apply Br.tt | apply Br.ff | apply Br.no)
    | ((with_reducible apply Br.t); · assumption)
    | ((with_reducible apply Br.f); · assumption)
    | ((with_reducible apply Br.dt); · exact ab_known)
    | ((with_reducible apply Br.df); · exact ab_known)
    | (with_reducible first | refine Br.dec (fun hc => ?_) (fun hc => ?_) | refine Br.mk (fun hc => ?_) (fun hc => ?_))
    | ((with_reducible first | apply NeedRows.mk | apply NeedMap.mk | apply NeedIter.mk); · exact ab_look)
    | ((with_reducible apply NeedLen.mk); · first | assumption | rfl)
    | ((with_reducible apply NeedRow.mk); · exact ab_lookR)
    | ((with_reducible apply DrawG.mk (List.replicate 60 false)); · decide +kernel)
    | (with_reducible first | refine NewP.mk (fun id hid => ?_) | refine NilP.mk (fun e he => ?_))
    | (with_reducible first | exact trivial | exact And.intro rfl rfl)
    | ((with_reducible apply PreP.mk); · exact ab_asked)
    | refine Exists.intro _ (PreP.mk (bytesOf_lst _) ?_)
    | refine PreP.mk (lenD_lst _) ?_
    | (with_reducible first | refine PreP.mk ?_ ?_ | refine BothP.mk ?_ ?_)
    | ((with_reducible apply AncOr.anc); · decide +kernel)
    | with_reducible refine AncOr.go ?_)
  refine CallOK.go (a41_log hd4 (by simp [framesL, frameL_len]) (by simp)) (fun r H5 hr => ?_)
  obtain ⟨⟨g5, hg5⟩, lid, hlid, hL5, rfl⟩ := hr
  repeat' (first
    | ((with_reducible apply Onw.mk); conv => whnf)
    | (with_reducible first | apply Br.tt | apply Br.ff | apply Br.no)
    | ((with_reducible apply Br.t); · assumption)
    | ((with_reducible apply Br.f); · assumption)
    | ((with_reducible apply Br.dt); · exact ab_known)
    | ((with_reducible apply Br.df); · exact ab_known)
    | (with_reducible first | refine Br.dec (fun hc => ?_) (fun hc => ?_) | refine Br.mk (fun hc => ?_) (fun hc => ?_))
    | ((with_reducible first | apply NeedRows.mk | apply NeedMap.mk | apply NeedIter.mk); · exact ab_look)
    | ((with_reducible apply NeedLen.mk); · first | assumption | rfl)
    | ((with_reducible apply NeedRow.mk); · exact ab_lookR)
    | ((with_reducible apply DrawG.mk (List.replicate 60 false)); · decide +kernel)
    | (with_reducible first | refine NewP.mk (fun id hid => ?_) | refine NilP.mk (fun e he => ?_))
    | (with_reducible first | exact trivial | exact And.intro rfl rfl)
    | ((with_reducible apply PreP.mk); · exact ab_asked)
    | refine Exists.intro _ (PreP.mk (bytesOf_lst _) ?_)
    | refine PreP.mk (lenD_lst _) ?_
    | (with_reducible first | refine PreP.mk ?_ ?_ | refine BothP.mk ?_ ?_)
    | ((with_reducible apply AncOr.anc); · decide +kernel)
    | with_reducible refine AncOr.go ?_)
  refine CallOK.go (a41none hL5.disk [111, 116, 104, 101, 114] (by simp [logDs, offB]) (by simp [findM, logDs, nLog])) (fun r H6 hr => ?_)
  obtain ⟨rfl, rfl⟩ := hr
  repeat' (first
    | ((with_reducible apply Onw.mk); conv => whnf)
    | (with_reducible first | apply Br.tt | apply Br.ff | apply Br.no)
    | ((with_reducible apply Br.t); · assumption)
    | ((with_reducible apply Br.f); · assumption)
    | ((with_reducible apply Br.dt); · exact ab_known)
    | ((with_reducible apply Br.df); · exact ab_known)
    | (with_reducible first | refine Br.dec (fun hc => ?_) (fun hc => ?_) | refine Br.mk (fun hc => ?_) (fun hc => ?_))
    | ((with_reducible first | apply NeedRows.mk | apply NeedMap.mk | apply NeedIter.mk); · exact ab_look)
    | ((with_reducible apply NeedLen.mk); · first | assumption | rfl)
    | ((with_reducible apply NeedRow.mk); · exact ab_lookR)
    | ((with_reducible apply DrawG.mk (List.replicate 60 false)); · decide +kernel)
    | (with_reducible first | refine NewP.mk (fun id hid => ?_) | refine NilP.mk (fun e he => ?_))
    | (with_reducible first | exact trivial | exact And.intro rfl rfl)
    | ((with_reducible apply PreP.mk); · exact ab_asked)
    | refine Exists.intro _ (PreP.mk (bytesOf_lst _) ?_)
    | refine PreP.mk (lenD_lst _) ?_
    | (with_reducible first | refine PreP.mk ?_ ?_ | refine BothP.mk ?_ ?_)
    | ((with_reducible apply AncOr.anc); · decide +kernel)
    | with_reducible refine AncOr.go ?_)
  refine CallOK.go (CallOK.of_spec (s38o _ [113] (by decide))) (fun r H7 hr => ?_)
  obtain ⟨id7, hO7, rfl⟩ := hr
  obtain ⟨g7, hg7⟩ := hO7.2.1
  have hrow7 := hO7.2.2
  have hl9 : (frameL [113]).length = 9 := by simp [frameL_len]
  repeat' (first
    | ((with_reducible apply Onw.mk); conv => whnf)
    | (with_reducible first | apply Br.tt | apply Br.ff | apply Br.no)
    | ((with_reducible apply Br.t); · assumption)
    | ((with_reducible apply Br.f); · assumption)
    | ((with_reducible apply Br.dt); · exact ab_known)
    | ((with_reducible apply Br.df); · exact ab_known)
    | (with_reducible first | refine Br.dec (fun hc => ?_) (fun hc => ?_) | refine Br.mk (fun hc => ?_) (fun hc => ?_))
    | ((with_reducible first | apply NeedRows.mk | apply NeedMap.mk | apply NeedIter.mk); · exact ab_look)
    | ((with_reducible apply NeedLen.mk); · first | assumption | rfl)
    | ((with_reducible apply NeedRow.mk); · exact ab_lookR)
    | ((with_reducible apply DrawG.mk (List.replicate 60 false)); · decide +kernel)
    | (with_reducible first | refine NewP.mk (fun id hid => ?_) | refine NilP.mk (fun e he => ?_))
    | (with_reducible first | exact trivial | exact And.intro rfl rfl)
    | ((with_reducible apply PreP.mk); · exact ab_asked)
    | refine Exists.intro _ (PreP.mk (bytesOf_lst _) ?_)
    | refine PreP.mk (lenD_lst _) ?_
    | (with_reducible first | refine PreP.mk ?_ ?_ | refine BothP.mk ?_ ?_)
    | ((with_reducible apply AncOr.anc); · decide +kernel)
    | with_reducible refine AncOr.go ?_)
  refine NewSlice.bytes [1, 2] rfl rfl rfl ?_
  repeat' (first
    | ((with_reducible apply Onw.mk); conv => whnf)
    | (with_reducible first | apply Br.tt | apply Br.ff | apply Br.no)
    | ((with_reducible apply Br.t); · assumption)
    | ((with_reducible apply Br.f); · assumption)
    | ((with_reducible apply Br.dt); · exact ab_known)
    | ((with_reducible apply Br.df); · exact ab_known)
    | (with_reducible first | refine Br.dec (fun hc => ?_) (fun hc => ?_) | refine Br.mk (fun hc => ?_) (fun hc => ?_))
    | ((with_reducible first | apply NeedRows.mk | apply NeedMap.mk | apply NeedIter.mk); · exact ab_look)
    | ((with_reducible apply NeedLen.mk); · first | assumption | rfl)
    | ((with_reducible apply NeedRow.mk); · exact ab_lookR)
    | ((with_reducible apply DrawG.mk (List.replicate 60 false)); · decide +kernel)
    | (with_reducible first | refine NewP.mk (fun id hid => ?_) | refine NilP.mk (fun e he => ?_))
    | (with_reducible first | exact trivial | exact And.intro rfl rfl)
    | ((with_reducible apply PreP.mk); · exact ab_asked)
    | refine Exists.intro _ (PreP.mk (bytesOf_lst _) ?_)
    | refine PreP.mk (lenD_lst _) ?_
    | (with_reducible first | refine PreP.mk ?_ ?_ | refine BothP.mk ?_ ?_)
    | ((with_reducible apply AncOr.anc); · decide +kernel)
    | with_reducible refine AncOr.go ?_)
  · exact appPre5 _ 0 _ [1, 2] (by decide) (by omega) (by rw [List.length_map, List.length_map]; omega)
  refine AppTo.new (fun id8 hid8 => ?_)
  repeat' (first
    | ((with_reducible apply Onw.mk); conv => whnf)
    | (with_reducible first | apply Br.tt | apply Br.ff | apply Br.no)
    | ((with_reducible apply Br.t); · assumption)
    | ((with_reducible apply Br.f); · assumption)
    | ((with_reducible apply Br.dt); · exact ab_known)
    | ((with_reducible apply Br.df); · exact ab_known)
    | (with_reducible first | refine Br.dec (fun hc => ?_) (fun hc => ?_) | refine Br.mk (fun hc => ?_) (fun hc => ?_))
    | ((with_reducible first | apply NeedRows.mk | apply NeedMap.mk | apply NeedIter.mk); · exact ab_look)
    | ((with_reducible apply NeedLen.mk); · first | assumption | rfl)
    | ((with_reducible apply NeedRow.mk); · exact ab_lookR)
    | ((with_reducible apply DrawG.mk (List.replicate 60 false)); · decide +kernel)
    | (with_reducible first | refine NewP.mk (fun id hid => ?_) | refine NilP.mk (fun e he => ?_))
    | (with_reducible first | exact trivial | exact And.intro rfl rfl)
    | ((with_reducible apply PreP.mk); · exact ab_asked)
    | refine Exists.intro _ (PreP.mk (bytesOf_lst _) ?_)
    | refine PreP.mk (lenD_lst _) ?_
    | (with_reducible first | refine PreP.mk ?_ ?_ | refine BothP.mk ?_ ?_)
    | ((with_reducible apply AncOr.anc); · decide +kernel)
    | with_reducible refine AncOr.go ?_)
  have hO8 := hO7.bytes (b := [1, 2]) hid8 (X := (List.take (frameL [113]).length (List.drop 0 (((frameL [113]).map byteRow).map (·.map D.p)))) ++ ([1, 2].map byteRow).map (·.map D.p)) (by
    rw [byteRow_map, List.drop_zero, List.take_of_length_le (by rw [List.length_map]; exact Nat.le_refl _), byteRow_map, List.map_append])
  have hX : (List.take (frameL [113]).length (List.drop 0 (((frameL [113]).map byteRow).map (·.map D.p)))) ++ ([1, 2].map byteRow).map (·.map D.p) = (frameL [113] ++ [1, 2]).map byteRowD := by
    rw [byteRow_map, List.drop_zero, List.take_of_length_le (by rw [List.length_map]; exact Nat.le_refl _), byteRow_map, List.map_append]
  refine CallOK.frzB (pre := []) (post := []) (frameL [113] ++ [1, 2]) hO8.2.2 (by rw [List.take_of_length_le (by simp), byteRow_map]) (by simp) ?_
  refine CallOK.go (c36 _ (frameL [113] ++ [1, 2]) (by simp [frameL_len])) (fun r H9 hr => ?_)
  have hsc : scanL (frameL [113] ++ [1, 2]) = ([[113]], [1, 2]) := by rw [scanL_frame [113] [1, 2] (by decide), scanL_short [1, 2] (by decide)]
  rw [hsc] at hr
  obtain ⟨rfl, hH9⟩ := hr
  have hn9 : (frameL [113] ++ [1, 2]).length - ([1, 2] : List UInt8).length = 9 := by simp [frameL_len]
  rw [hn9]
  have hrow9 : nth H9 lid = some (logRow d nLog 2 false) := by
    rw [hH9]
    have h1 : nth H7 lid = some (logRow d nLog 2 false) := by rw [hg7]; exact nth_app hL5.row
    have hlt := nth_lt hL5.row
    have hlt7 := nth_lt h1
    exact nth_setN_ne (by omega) (nth_app (nth_setN_ne (by have := hO7.1; omega) h1))
  have hpre : ∃ l, H9 = H ++ l := by
    refine prefix_of (fun j o hj => ?_)
    have hjl := nth_lt hj
    have h3 := hg03.out j o (by simp) hj
    have h4 := hg4.out j o (fun he => by
      rcases hg03.ids j (List.mem_cons_of_mem _ he) with q | q
      · cases q
      · omega) h3
    have h6 : nth H6 j = some o := by rw [hg5]; exact nth_app h4
    have h7 : nth H7 j = some o := by rw [hg7]; exact nth_app h6
    have l4 := nth_lt h6
    have l7 := nth_lt h7
    rw [hH9]
    exact nth_setN_ne (by omega) (nth_app (nth_setN_ne (by have := hO7.1; omega) h7))
  have hri : Ab.rowAt (([] ++ [[97]] ++ [[]] : List (List UInt8)).map strRow) (0 : Int).toNat = strRow [97] := rfl
  have hrp : (0 : Int) ≤ 0 ∧ (0 : Int) < ((([] ++ [[97]] ++ [[]] : List (List UInt8)).map strRow).length : Int) ∧ (Ab.rowAt (([] ++ [[97]] ++ [[]] : List (List UInt8)).map strRow) (0 : Int).toNat).length = 1 := ⟨by decide, by decide, rfl⟩
  repeat' (first
    | ((with_reducible apply Onw.mk); conv => whnf)
    | (with_reducible first | apply Br.tt | apply Br.ff | apply Br.no)
    | ((with_reducible apply Br.t); · assumption)
    | ((with_reducible apply Br.f); · assumption)
    | ((with_reducible apply Br.dt); · exact ab_known)
    | ((with_reducible apply Br.df); · exact ab_known)
    | (with_reducible first | refine Br.dec (fun hc => ?_) (fun hc => ?_) | refine Br.mk (fun hc => ?_) (fun hc => ?_))
    | (refine PreP.mk hrp ?_)
    | (refine EqP.mk hri ?_)
    | ((with_reducible first | apply NeedRows.mk | apply NeedMap.mk | apply NeedIter.mk); · exact ab_look)
    | ((with_reducible apply NeedLen.mk); · first | assumption | rfl)
    | ((with_reducible apply NeedRow.mk); · exact ab_lookR)
    | ((with_reducible apply DrawG.mk (List.replicate 60 false)); · decide +kernel)
    | (with_reducible first | refine NewP.mk (fun id hid => ?_) | refine NilP.mk (fun e he => ?_))
    | (with_reducible first | exact trivial | exact And.intro rfl rfl)
    | ((with_reducible apply PreP.mk); · exact ab_asked)
    | refine Exists.intro _ (PreP.mk (bytesOf_lst _) ?_)
    | refine PreP.mk (lenD_lst _) ?_
    | (with_reducible first | refine PreP.mk ?_ ?_ | refine BothP.mk ?_ ?_)
    | ((with_reducible apply AncOr.anc); · decide +kernel)
    | with_reducible refine AncOr.go ?_)
  rotate_left
  · exact absurd rfl hc
  · exact absurd rfl hc
  refine CallOK.go (a45 hrow9) (fun r H10 hr => ?_)
  obtain ⟨rfl, rfl⟩ := hr
  repeat' (first
    | ((with_reducible apply Onw.mk); conv => whnf)
    | (with_reducible first | apply Br.tt | apply Br.ff | apply Br.no)
    | ((with_reducible apply Br.t); · assumption)
    | ((with_reducible apply Br.f); · assumption)
    | ((with_reducible apply Br.dt); · exact ab_known)
    | ((with_reducible apply Br.df); · exact ab_known)
    | (with_reducible first | refine Br.dec (fun hc => ?_) (fun hc => ?_) | refine Br.mk (fun hc => ?_) (fun hc => ?_))
    | ((with_reducible first | apply NeedRows.mk | apply NeedMap.mk | apply NeedIter.mk); · exact ab_look)
    | ((with_reducible apply NeedLen.mk); · first | assumption | rfl)
    | ((with_reducible apply NeedRow.mk); · exact ab_lookR)
    | ((with_reducible apply DrawG.mk (List.replicate 60 false)); · decide +kernel)
    | (with_reducible first | refine NewP.mk (fun id hid => ?_) | refine NilP.mk (fun e he => ?_))
    | (with_reducible first | exact trivial | exact And.intro rfl rfl)
    | ((with_reducible apply PreP.mk); · exact ab_asked)
    | refine Exists.intro _ (PreP.mk (bytesOf_lst _) ?_)
    | refine PreP.mk (lenD_lst _) ?_
    | (with_reducible first | refine PreP.mk ?_ ?_ | refine BothP.mk ?_ ?_)
    | ((with_reducible apply AncOr.anc); · decide +kernel)
    | with_reducible refine AncOr.go ?_)
  refine CallOK.go (a44 hrow9) (fun r H10 hr => ?_)
  obtain ⟨rfl, rfl⟩ := hr
  repeat' (first
    | ((with_reducible apply Onw.mk); conv => whnf)
    | (with_reducible first | apply Br.tt | apply Br.ff | apply Br.no)
    | ((with_reducible apply Br.t); · assumption)
    | ((with_reducible apply Br.f); · assumption)
    | ((with_reducible apply Br.dt); · exact ab_known)
    | ((with_reducible apply Br.df); · exact ab_known)
    | (with_reducible first | refine Br.dec (fun hc => ?_) (fun hc => ?_) | refine Br.mk (fun hc => ?_) (fun hc => ?_))
    | ((with_reducible first | apply NeedRows.mk | apply NeedMap.mk | apply NeedIter.mk); · exact ab_look)
    | ((with_reducible apply NeedLen.mk); · first | assumption | rfl)
    | ((with_reducible apply NeedRow.mk); · exact ab_lookR)
    | ((with_reducible apply DrawG.mk (List.replicate 60 false)); · decide +kernel)
    | (with_reducible first | refine NewP.mk (fun id hid => ?_) | refine NilP.mk (fun e he => ?_))
    | (with_reducible first | exact trivial | exact And.intro rfl rfl)
    | ((with_reducible apply PreP.mk); · exact ab_asked)
    | refine Exists.intro _ (PreP.mk (bytesOf_lst _) ?_)
    | refine PreP.mk (lenD_lst _) ?_
    | (with_reducible first | refine PreP.mk ?_ ?_ | refine BothP.mk ?_ ?_)
    | ((with_reducible apply AncOr.anc); · decide +kernel)
    | with_reducible refine AncOr.go ?_)
  exact ⟨rfl, hpre⟩
theorem c35 (H : Heap) : CallOK Try.prog 35 [] H (fun r H' => r = boolD true ∧ H' = H) :=
  (CallOK.trim (Q := fun r => r = boolD true) ((CallOK.of_spec (s35 H)).mono (fun _ _ hr => ⟨hr.2, by rw [hr.1]; rfl, hr.1⟩))).mono (fun _ _ hr => ⟨hr.2.2, hr.1⟩)
end Go.Proofs.Ytanknokhbfijdaa
