/- What functions of the disk, and of the laws over it, do. Conditions: those that each theorem names. -/
import Derived.Test.YtanknokhbfijdaaD35
set_option linter.unusedVariables false
set_option linter.unusedSimpArgs false
namespace Go.Proofs.Ytanknokhbfijdaa
open Go.Ab
set_option maxRecDepth 100000
set_option maxHeartbeats 1000000
attribute [local irreducible] Run CallOK DetCall Br PreP BothP AncOr Onw NeedRows NeedMap NeedRow NeedLen NilP NeedIter RoundP EntryP EqP OptP NewP NewSlice NewMade AppTo DrawG anc drawB
/-- What a log's Append does. -/
structure LogO where
  e : Int
  m : Ds
  n : Int
  br : Bool
def logApp (m : Ds) (name : List UInt8) (n : Int) (br : Bool) (rec : List UInt8) : LogO :=
  bif br || decide (4000 < rec.length) then ⟨220, m, n, br⟩ else
    if appendR m name (frameL rec) = 211 then ⟨211, appendM m name (frameL rec), n, br⟩ else
      if appendR m name (frameL rec) = 0 then
        (if errM (appendM m name (frameL rec)) name = 0 then ⟨0, syncM (appendM m name (frameL rec)) name, n + 1, br⟩ else ⟨errM (appendM m name (frameL rec)) name, syncM (appendM m name (frameL rec)) name, n, true⟩)
      else ⟨appendR m name (frameL rec), appendM m name (frameL rec), n, true⟩
theorem appM_fields' (m : Ds) (name b : List UInt8) : (appendM m name b).steps = m.steps + 1 ∧ (appendM m name b).off = m.off ∧ (appendM m name b).quota = m.quota := by
  unfold appendM
  cases appendR m name b == 0 <;> exact ⟨rfl, rfl, rfl⟩
def logRow (d : Nat) (name : List UInt8) (n : Int) (br : Bool) : Ab.Obj := .rows [[.ptr d 0 0, .p (.str name), i64 n, boolD br]]
theorem frameL_len (s : List UInt8) : (frameL s).length = s.length + 8 := by simp [frameL, putL_len]; omega
theorem a42 {H : Heap} {l d : Nat} {m : Ds} {ids : List Nat} {name : List UInt8} {n : Int} {br : Bool} (hlog : nth H l = some (logRow d name n br)) (h : DiskIs H d m ids) (hl : l ∉ ids) (ho : DsOK m) (hn0 : 0 ≤ n) (hn1 : n < 1000000000)
    (hname : name.length ≤ 1000) (rec : List UInt8) (hr : rec.length ≤ 10000) :
    CallOK Try.prog 42 [.ptr l 0 0, .p (.str rec)] H (fun r H' => r = i64 (logApp m name n br rec).e ∧ nth H' l = some (logRow d name (logApp m name n br rec).n (logApp m name n br rec).br) ∧
      ∃ ids', DiskIs H' d (logApp m name n br rec).m ids' ∧ Goes H (l :: ids) H' (l :: ids') ∧ l ∉ ids') := by
  refine CallOK.of_spec ?_
  unfold logRow at hlog
  have hgl : ∀ {H' : Heap} {a b : List Nat}, Goes H a H' b → Goes H (l :: a) H' (l :: b) := fun g => ⟨fun j o hj ho => g.out j o (fun e => hj (List.mem_cons_of_mem _ e)) ho, fun j hj => by
    rcases List.mem_cons.1 hj with rfl | hj
    · exact .inl List.mem_cons_self
    · rcases g.ids j hj with q | q
      · exact .inl (List.mem_cons_of_mem _ q)
      · exact .inr q, g.len⟩
  rcases hbr : (br || decide (4000 < rec.length)) with _ | _
  rotate_left
  · have hO : logApp m name n br rec = ⟨220, m, n, br⟩ := by unfold logApp; rw [hbr]; rfl
    rw [hO]
    refine Ab.Spec.walk hm Try.func42 (by kernel_rfl) 200 ?_
    cases br with
    | true =>
      repeat' (first
        | ((with_reducible apply Onw.mk); conv => whnf)
        | (with_reducible first | apply Br.tt | apply Br.ff | apply Br.no)
        | ((with_reducible apply Br.t); · assumption)
        | ((with_reducible apply Br.f); · assumption)
        | ((with_reducible apply Br.dt); · exact ab_known)
        | ((with_reducible apply Br.df); · exact ab_known)
        | (with_reducible first | refine Br.dec (fun hc => ?_) (fun hc => ?_) | refine Br.mk (fun hc => ?_) (fun hc => ?_))
        | ((with_reducible first | apply NeedRows.mk | apply NeedMap.mk | apply NeedIter.mk); · exact ab_look)
        | ((with_reducible apply NeedLen.mk); · first | assumption | rfl)
        | ((with_reducible apply NeedRow.mk); · exact ab_lookR)
        | ((with_reducible apply DrawG.mk (List.replicate 60 false)); · decide +kernel)
        | (with_reducible first | refine NewP.mk (fun id hid => ?_) | refine NilP.mk (fun e he => ?_))
        | (with_reducible first | exact trivial | exact And.intro rfl rfl)
        | ((with_reducible apply PreP.mk); · exact ab_asked)
        | refine Exists.intro _ (PreP.mk (bytesOf_lst _) ?_)
        | refine PreP.mk (lenD_lst _) ?_
        | (with_reducible first | refine PreP.mk ?_ ?_ | refine BothP.mk ?_ ?_)
        | ((with_reducible apply AncOr.anc); · decide +kernel)
        | with_reducible refine AncOr.go ?_)
      exact ⟨rfl, hlog, ids, h, Goes.refl _ _, hl⟩
    | false =>
      have h4 : (4000 : Int) < rec.length := by simp at hbr; omega
      repeat' (first
        | ((with_reducible apply Onw.mk); conv => whnf)
        | (with_reducible first | apply Br.tt | apply Br.ff | apply Br.no)
        | ((with_reducible apply Br.t); · assumption)
        | ((with_reducible apply Br.f); · assumption)
        | ((with_reducible apply Br.dt); · exact ab_known)
        | ((with_reducible apply Br.df); · exact ab_known)
        | (with_reducible first | refine Br.dec (fun hc => ?_) (fun hc => ?_) | refine Br.mk (fun hc => ?_) (fun hc => ?_))
        | ((with_reducible first | apply NeedRows.mk | apply NeedMap.mk | apply NeedIter.mk); · exact ab_look)
        | ((with_reducible apply NeedLen.mk); · first | assumption | rfl)
        | ((with_reducible apply NeedRow.mk); · exact ab_lookR)
        | ((with_reducible apply DrawG.mk (List.replicate 60 false)); · decide +kernel)
        | (with_reducible first | refine NewP.mk (fun id hid => ?_) | refine NilP.mk (fun e he => ?_))
        | (with_reducible first | exact trivial | exact And.intro rfl rfl)
        | ((with_reducible apply PreP.mk); · exact ab_asked)
        | refine Exists.intro _ (PreP.mk (bytesOf_lst _) ?_)
        | refine PreP.mk (lenD_lst _) ?_
        | (with_reducible first | refine PreP.mk ?_ ?_ | refine BothP.mk ?_ ?_)
        | ((with_reducible apply AncOr.anc); · decide +kernel)
        | with_reducible refine AncOr.go ?_)
      exact ⟨rfl, hlog, ids, h, Goes.refl _ _, hl⟩
  have hb1 : br = false := by cases br <;> simp_all
  subst hb1
  have h4 : ¬ (4000 : Int) < rec.length := by simp at hbr; omega
  have hfl := frameL_len rec
  have hRu : appendR m name (frameL rec) = appendR m name (frameL rec) := rfl
  obtain ⟨k, hdk, hkk, rfl, rfl⟩ := h
  have hc38 : CallOK Try.prog 38 [.p (.str rec)] H (fun r H' => r = .p (.lst ((frameL rec).map byteRow)) ∧ H' = H) := (c38 H rec (by omega)).mono fun r H' hr => by rw [if_neg (by omega)] at hr; exact hr
  obtain ⟨ids1, hd1, hg1⟩ := appendHk_is hdk hkk ho name (frameL rec) (by omega)
  have hl1 := hg1.out l _ hl hlog
  have hE := appendE_plain k name (frameL rec)
  obtain ⟨k1, hdk1, hkk1, hpl1, rfl⟩ := hd1
  have hs1 : k1.steps = k.steps + 1 := by
    have := (appM_fields' (plain k) name (frameL rec)).1
    rw [← hpl1] at this; exact this
  have hst0 : 0 ≤ k.steps := ho.s0
  have hst1 : k.steps < 1000000000000 := ho.s1
  have hc17 : CallOK Try.prog 17 [.ptr d 0 0, .p (.str name)] (appendHk H d k name (frameL rec)) (fun r H' => r = i64 (errR k1 name) ∧ H' = syncH (appendHk H d k name (frameL rec)) d k1 name) :=
    (CallOK.of_spec (s17 _ d k1 name hdk1 (by omega) (by omega))).mono fun r H' hr => ⟨hr.2, hr.1⟩
  have hE1 := errR_plain k1 name
  rw [hpl1] at hE1
  obtain ⟨ids2, hd2, hg2⟩ := syncH_is hdk1 hkk1 name
  rw [hpl1] at hd2
  have hl2 := hg2.out l _ (hg1.apart (c := [l]) (fun j hj => by simp at hj; subst hj; exact hl) (fun j hj => by simp at hj; subst hj; exact nth_lt hlog) l (by simp)) hl1
  have hlout1 : l ∉ idsD d k1 := hg1.apart (c := [l]) (fun j hj => by simp at hj; subst hj; exact hl) (fun j hj => by simp at hj; subst hj; exact nth_lt hlog) l (by simp)
  have hlout2 : l ∉ ids2 := hg2.apart (c := [l]) (fun j hj => by simp at hj; subst hj; exact hlout1) (fun j hj => by simp at hj; subst hj; exact nth_lt hl1) l (by simp)
  have hcond : (false || decide (4000 < rec.length)) = false := hbr
  have hsetl : ∀ {H1 : Heap} {m1 : Ds} {ids' : List Nat} {o : Ab.Obj}, DiskIs H1 d m1 ids' → l ∉ ids' → Goes H (l :: idsD d k) H1 (l :: ids') → DiskIs (setN H1 l o) d m1 ids' ∧ Goes H (l :: idsD d k) (setN H1 l o) (l :: ids') := fun h1 h2 h3 =>
    ⟨h1.move (Goes.set (ids := [l]) (by simp)) (fun j hj hj' => by simp at hj'; subst hj'; exact h2 hj), h3.trans (Goes.set List.mem_cons_self)⟩
  rcases Classical.em (appendR (plain k) name (frameL rec) = 211) with h211 | h211
  · have hO : logApp (plain k) name n false rec = ⟨211, appendM (plain k) name (frameL rec), n, false⟩ := by unfold logApp; rw [hcond, if_pos h211]; rfl
    have hA : appendE k name (frameL rec) = 211 := by rw [hE]; exact h211
    rw [hO]
    refine Ab.Spec.walk hm Try.func42 (by kernel_rfl) 200 ?_
    repeat' (first
      | ((with_reducible apply Onw.mk); conv => whnf)
      | (with_reducible first | apply Br.tt | apply Br.ff | apply Br.no)
      | ((with_reducible apply Br.t); · assumption)
      | ((with_reducible apply Br.f); · assumption)
      | ((with_reducible apply Br.dt); · exact ab_known)
      | ((with_reducible apply Br.df); · exact ab_known)
      | (with_reducible first | refine Br.dec (fun hc => ?_) (fun hc => ?_) | refine Br.mk (fun hc => ?_) (fun hc => ?_))
      | (with_reducible apply DrawG.mk [false, false, false, false, false, false, false, false, false, false, true, false, true, false, false]; · decide +kernel)
      | (refine DetCall.go hc38 ?_)
      | (refine DetCall.go (c16k hdk ho name (frameL rec) hname (by omega)) ?_)
      | ((with_reducible first | apply NeedRows.mk | apply NeedMap.mk | apply NeedIter.mk); · exact ab_look)
      | ((with_reducible apply NeedLen.mk); · first | assumption | rfl)
      | ((with_reducible apply NeedRow.mk); · exact ab_lookR)
      | ((with_reducible apply DrawG.mk (List.replicate 60 false)); · decide +kernel)
      | (with_reducible first | refine NewP.mk (fun id hid => ?_) | refine NilP.mk (fun e he => ?_))
      | (with_reducible first | exact trivial | exact And.intro rfl rfl)
      | ((with_reducible apply PreP.mk); · exact ab_asked)
      | refine Exists.intro _ (PreP.mk (bytesOf_lst _) ?_)
      | refine PreP.mk (lenD_lst _) ?_
      | (with_reducible first | refine PreP.mk ?_ ?_ | refine BothP.mk ?_ ?_)
      | ((with_reducible apply AncOr.anc); · decide +kernel)
      | with_reducible refine AncOr.go ?_)
    exact ⟨by rw [hA]; rfl, hl1, _, ⟨k1, hdk1, hkk1, hpl1, rfl⟩, hgl hg1, hlout1⟩
  have hA211 : ¬ appendE k name (frameL rec) = 211 := by rw [hE]; exact h211
  rcases Classical.em (appendR (plain k) name (frameL rec) = 0) with h00 | h00
  · have hA : appendE k name (frameL rec) = 0 := by rw [hE]; exact h00
    rcases Classical.em (errM (appendM (plain k) name (frameL rec)) name = 0) with he0 | he0
    · have hO : logApp (plain k) name n false rec = ⟨0, syncM (appendM (plain k) name (frameL rec)) name, n + 1, false⟩ := by unfold logApp; rw [hcond, if_neg h211, if_pos h00, if_pos he0]; rfl
      have hB : errR k1 name = 0 := by rw [hE1]; exact he0
      rw [hO]
      refine Ab.Spec.walk hm Try.func42 (by kernel_rfl) 200 ?_
      repeat' (first
        | ((with_reducible apply Onw.mk); conv => whnf)
        | (with_reducible first | apply Br.tt | apply Br.ff | apply Br.no)
        | ((with_reducible apply Br.t); · assumption)
        | ((with_reducible apply Br.f); · assumption)
        | ((with_reducible apply Br.dt); · exact ab_known)
        | ((with_reducible apply Br.df); · exact ab_known)
        | (with_reducible first | refine Br.dec (fun hc => ?_) (fun hc => ?_) | refine Br.mk (fun hc => ?_) (fun hc => ?_))
        | (with_reducible apply DrawG.mk [false, false, false, false, false, false, false, false, false, false, true, false, true, false, false]; · decide +kernel)
        | (refine DetCall.go hc38 ?_)
        | (refine DetCall.go (c16k hdk ho name (frameL rec) hname (by omega)) ?_)
        | (refine DetCall.go hc17 ?_)
        | ((with_reducible first | apply NeedRows.mk | apply NeedMap.mk | apply NeedIter.mk); · exact ab_look)
        | ((with_reducible apply NeedLen.mk); · first | assumption | rfl)
        | ((with_reducible apply NeedRow.mk); · exact ab_lookR)
        | ((with_reducible apply DrawG.mk (List.replicate 60 false)); · decide +kernel)
        | (with_reducible first | refine NewP.mk (fun id hid => ?_) | refine NilP.mk (fun e he => ?_))
        | (with_reducible first | exact trivial | exact And.intro rfl rfl)
        | ((with_reducible apply PreP.mk); · exact ab_asked)
        | refine Exists.intro _ (PreP.mk (bytesOf_lst _) ?_)
        | refine PreP.mk (lenD_lst _) ?_
        | (with_reducible first | refine PreP.mk ?_ ?_ | refine BothP.mk ?_ ?_)
        | ((with_reducible apply AncOr.anc); · decide +kernel)
        | with_reducible refine AncOr.go ?_)
      have hw : IntKind.i64.wrap (n + 1) = n + 1 := wrap64 (by omega) (by omega)
      have hss := hsetl (o := logRow d name (n + 1) false) hd2 hlout2 (hgl (hg1.trans hg2))
      rw [hw]
      exact ⟨rfl, nth_setN_same hl2, ids2, hss.1, hss.2, hlout2⟩
    · have hO : logApp (plain k) name n false rec = ⟨errM (appendM (plain k) name (frameL rec)) name, syncM (appendM (plain k) name (frameL rec)) name, n, true⟩ := by unfold logApp; rw [hcond, if_neg h211, if_pos h00, if_neg he0]; rfl
      have hB : ¬ errR k1 name = 0 := by rw [hE1]; exact he0
      rw [hO]
      refine Ab.Spec.walk hm Try.func42 (by kernel_rfl) 200 ?_
      repeat' (first
        | ((with_reducible apply Onw.mk); conv => whnf)
        | (with_reducible first | apply Br.tt | apply Br.ff | apply Br.no)
        | ((with_reducible apply Br.t); · assumption)
        | ((with_reducible apply Br.f); · assumption)
        | ((with_reducible apply Br.dt); · exact ab_known)
        | ((with_reducible apply Br.df); · exact ab_known)
        | (with_reducible first | refine Br.dec (fun hc => ?_) (fun hc => ?_) | refine Br.mk (fun hc => ?_) (fun hc => ?_))
        | (with_reducible apply DrawG.mk [false, false, false, false, false, false, false, false, false, false, true, false, true, false, false]; · decide +kernel)
        | (refine DetCall.go hc38 ?_)
        | (refine DetCall.go (c16k hdk ho name (frameL rec) hname (by omega)) ?_)
        | (refine DetCall.go hc17 ?_)
        | ((with_reducible first | apply NeedRows.mk | apply NeedMap.mk | apply NeedIter.mk); · exact ab_look)
        | ((with_reducible apply NeedLen.mk); · first | assumption | rfl)
        | ((with_reducible apply NeedRow.mk); · exact ab_lookR)
        | ((with_reducible apply DrawG.mk (List.replicate 60 false)); · decide +kernel)
        | (with_reducible first | refine NewP.mk (fun id hid => ?_) | refine NilP.mk (fun e he => ?_))
        | (with_reducible first | exact trivial | exact And.intro rfl rfl)
        | ((with_reducible apply PreP.mk); · exact ab_asked)
        | refine Exists.intro _ (PreP.mk (bytesOf_lst _) ?_)
        | refine PreP.mk (lenD_lst _) ?_
        | (with_reducible first | refine PreP.mk ?_ ?_ | refine BothP.mk ?_ ?_)
        | ((with_reducible apply AncOr.anc); · decide +kernel)
        | with_reducible refine AncOr.go ?_)
      have hss := hsetl (o := logRow d name n true) hd2 hlout2 (hgl (hg1.trans hg2))
      exact ⟨by rw [hE1]; rfl, nth_setN_same hl2, ids2, hss.1, hss.2, hlout2⟩
  · have hA : ¬ appendE k name (frameL rec) = 0 := by rw [hE]; exact h00
    have hO : logApp (plain k) name n false rec = ⟨appendR (plain k) name (frameL rec), appendM (plain k) name (frameL rec), n, true⟩ := by unfold logApp; rw [hcond, if_neg h211, if_neg h00]; rfl
    rw [hO]
    refine Ab.Spec.walk hm Try.func42 (by kernel_rfl) 200 ?_
    repeat' (first
      | ((with_reducible apply Onw.mk); conv => whnf)
      | (with_reducible first | apply Br.tt | apply Br.ff | apply Br.no)
      | ((with_reducible apply Br.t); · assumption)
      | ((with_reducible apply Br.f); · assumption)
      | ((with_reducible apply Br.dt); · exact ab_known)
      | ((with_reducible apply Br.df); · exact ab_known)
      | (with_reducible first | refine Br.dec (fun hc => ?_) (fun hc => ?_) | refine Br.mk (fun hc => ?_) (fun hc => ?_))
      | (with_reducible apply DrawG.mk [false, false, false, false, false, false, false, false, false, false, true, false, true, false, false]; · decide +kernel)
      | (refine DetCall.go hc38 ?_)
      | (refine DetCall.go (c16k hdk ho name (frameL rec) hname (by omega)) ?_)
      | ((with_reducible first | apply NeedRows.mk | apply NeedMap.mk | apply NeedIter.mk); · exact ab_look)
      | ((with_reducible apply NeedLen.mk); · first | assumption | rfl)
      | ((with_reducible apply NeedRow.mk); · exact ab_lookR)
      | ((with_reducible apply DrawG.mk (List.replicate 60 false)); · decide +kernel)
      | (with_reducible first | refine NewP.mk (fun id hid => ?_) | refine NilP.mk (fun e he => ?_))
      | (with_reducible first | exact trivial | exact And.intro rfl rfl)
      | ((with_reducible apply PreP.mk); · exact ab_asked)
      | refine Exists.intro _ (PreP.mk (bytesOf_lst _) ?_)
      | refine PreP.mk (lenD_lst _) ?_
      | (with_reducible first | refine PreP.mk ?_ ?_ | refine BothP.mk ?_ ?_)
      | ((with_reducible apply AncOr.anc); · decide +kernel)
      | with_reducible refine AncOr.go ?_)
    have hss := hsetl (o := logRow d name n true) ⟨k1, hdk1, hkk1, hpl1, rfl⟩ hlout1 (hgl hg1)
    exact ⟨by rw [hE]; rfl, nth_setN_same hl1, idsD d k1, hss.1, hss.2, hlout1⟩
end Go.Proofs.Ytanknokhbfijdaa
