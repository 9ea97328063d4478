/- What functions of the disk, and of the laws over it, do. Conditions: those that each theorem names. -/
import Derived.Test.YtanknokhbfijdaaD15
set_option linter.unusedVariables false
set_option linter.unusedSimpArgs false
namespace Go.Proofs.Ytanknokhbfijdaa
open Go.Ab
set_option maxRecDepth 100000
set_option maxHeartbeats 1000000
attribute [local irreducible] Run CallOK DetCall Br PreP BothP AncOr Onw NeedRows NeedMap NeedRow NeedLen NilP NeedIter RoundP EntryP EqP OptP NewP NewSlice NewMade AppTo DrawG anc drawB
theorem appR_new {m : Ds} {name b : List UInt8} (h1 : offB (m.steps + 1) m.off = false) (h2 : okName name = true) (h3 : (b.length : Int) ≤ m.quota - usedM m) (h4 : m.quota ≤ 1000000) (h5 : 0 ≤ m.quota) (h6 : usedM m ≤ 10000000) (h7 : m.files.length < 50) : appendR m name b = 0 := by
  unfold appendR
  have hw : IntKind.i64.wrap (m.quota - (usedM m : Int)) = m.quota - usedM m := wrap64 (by omega) (by omega)
  have hf : fullM m b.length (findM m name).isSome = false := by
    unfold fullM
    rw [hw]
    have e1 : decide (m.quota - (usedM m : Int) < b.length) = false := decide_eq_false (by omega)
    have e2 : decide (50 ≤ m.files.length) = false := decide_eq_false (by omega)
    rw [e1, e2]; simp
  rw [h1, h2, hf]; rfl
theorem s3 (a b : List UInt8) (c : UInt8) : Ab.Spec Try.prog 3 [.p (.lst (a.map byteRow)), .p (.lst (b.map byteRow)), .p (.int .u8 c.toNat)] [] (fun r _ => r = boolD true) := by
  have hla : ((a.map byteRow).length : Int) = a.length := by simp
  have hlb : ((b.map byteRow).length : Int) = b.length := by simp
  refine Ab.Spec.walk hm Try.func3 (by kernel_rfl) 300 ?_
  repeat' (first
    | ((with_reducible apply Onw.mk); conv => whnf)
    | (with_reducible first | apply Br.tt | apply Br.ff | apply Br.no)
    | ((with_reducible apply Br.t); · assumption)
    | ((with_reducible apply Br.f); · assumption)
    | ((with_reducible apply Br.dt); · exact ab_known)
    | ((with_reducible apply Br.df); · exact ab_known)
    | (with_reducible first | refine Br.dec (fun hc => ?_) (fun hc => ?_) | refine Br.mk (fun hc => ?_) (fun hc => ?_))
    | ((with_reducible first | apply NeedRows.mk | apply NeedMap.mk | apply NeedIter.mk); · exact ab_look)
    | ((with_reducible apply NeedLen.mk); · first | assumption | rfl)
    | ((with_reducible apply NeedRow.mk); · exact ab_lookR)
    | ((with_reducible apply DrawG.mk (List.replicate 60 false)); · decide +kernel)
    | (with_reducible first | refine NewP.mk (fun id hid => ?_) | refine NilP.mk (fun e he => ?_))
    | (with_reducible first | exact trivial | exact And.intro rfl rfl)
    | ((with_reducible apply PreP.mk); · exact ab_asked)
    | refine Exists.intro _ (PreP.mk (bytesOf_lst _) ?_)
    | refine PreP.mk (lenD_lst _) ?_
    | (with_reducible first | refine PreP.mk ?_ ?_ | refine BothP.mk ?_ ?_)
    | ((with_reducible apply AncOr.anc); · decide +kernel)
    | with_reducible refine AncOr.go ?_)
  refine CallOK.go (c14 _) (fun r H0 hr => ?_)
  obtain ⟨rfl, rfl⟩ := hr
  repeat' (first
    | ((with_reducible apply Onw.mk); conv => whnf)
    | (with_reducible first | apply Br.tt | apply Br.ff | apply Br.no)
    | ((with_reducible apply Br.t); · assumption)
    | ((with_reducible apply Br.f); · assumption)
    | ((with_reducible apply Br.dt); · exact ab_known)
    | ((with_reducible apply Br.df); · exact ab_known)
    | (with_reducible first | refine Br.dec (fun hc => ?_) (fun hc => ?_) | refine Br.mk (fun hc => ?_) (fun hc => ?_))
    | ((with_reducible first | apply NeedRows.mk | apply NeedMap.mk | apply NeedIter.mk); · exact ab_look)
    | ((with_reducible apply NeedLen.mk); · first | assumption | rfl)
    | ((with_reducible apply NeedRow.mk); · exact ab_lookR)
    | ((with_reducible apply DrawG.mk (List.replicate 60 false)); · decide +kernel)
    | (with_reducible first | refine NewP.mk (fun id hid => ?_) | refine NilP.mk (fun e he => ?_))
    | (with_reducible first | exact trivial | exact And.intro rfl rfl)
    | ((with_reducible apply PreP.mk); · exact ab_asked)
    | refine Exists.intro _ (PreP.mk (bytesOf_lst _) ?_)
    | refine PreP.mk (lenD_lst _) ?_
    | (with_reducible first | refine PreP.mk ?_ ?_ | refine BothP.mk ?_ ?_)
    | ((with_reducible apply AncOr.anc); · decide +kernel)
    | with_reducible refine AncOr.go ?_)
  · exact rfl
  · exact rfl
  refine CallOK.go (a15 _ _) (fun r H0 hr => ?_)
  obtain ⟨d, ids0, rfl, hd0, hg0⟩ := hr
  have ha2 : a.length ≤ 200 := by omega
  have hb2 : b.length ≤ 200 := by omega
  repeat' (first
    | ((with_reducible apply Onw.mk); conv => whnf)
    | (with_reducible first | apply Br.tt | apply Br.ff | apply Br.no)
    | ((with_reducible apply Br.t); · assumption)
    | ((with_reducible apply Br.f); · assumption)
    | ((with_reducible apply Br.dt); · exact ab_known)
    | ((with_reducible apply Br.df); · exact ab_known)
    | (with_reducible first | refine Br.dec (fun hc => ?_) (fun hc => ?_) | refine Br.mk (fun hc => ?_) (fun hc => ?_))
    | ((with_reducible first | apply NeedRows.mk | apply NeedMap.mk | apply NeedIter.mk); · exact ab_look)
    | ((with_reducible apply NeedLen.mk); · first | assumption | rfl)
    | ((with_reducible apply NeedRow.mk); · exact ab_lookR)
    | ((with_reducible apply DrawG.mk (List.replicate 60 false)); · decide +kernel)
    | (with_reducible first | refine NewP.mk (fun id hid => ?_) | refine NilP.mk (fun e he => ?_))
    | (with_reducible first | exact trivial | exact And.intro rfl rfl)
    | ((with_reducible apply PreP.mk); · exact ab_asked)
    | refine Exists.intro _ (PreP.mk (bytesOf_lst _) ?_)
    | refine PreP.mk (lenD_lst _) ?_
    | (with_reducible first | refine PreP.mk ?_ ?_ | refine BothP.mk ?_ ?_)
    | ((with_reducible apply AncOr.anc); · decide +kernel)
    | with_reducible refine AncOr.go ?_)
  refine CallOK.go (a16 hd0 ⟨by decide, by decide, by decide, by decide⟩ [102] a (by decide) (by omega)) (fun r H1 hr => ?_)
  obtain ⟨rfl, ids1, hd1, hg1⟩ := hr
  have hE1 : appendR ⟨0, 0, 1000, []⟩ [102] a = 0 := appR_new (by decide) (by decide) (by simp [usedM]; omega) (by decide) (by decide) (by decide) (by decide)
  have hM1 : appendM ⟨0, 0, 1000, []⟩ [102] a = ⟨1, 0, 1000, [⟨[102], a, 0⟩]⟩ := by unfold appendM; rw [hE1]; rfl
  rw [hM1] at hd1; rw [hE1]
  repeat' (first
    | ((with_reducible apply Onw.mk); conv => whnf)
    | (with_reducible first | apply Br.tt | apply Br.ff | apply Br.no)
    | ((with_reducible apply Br.t); · assumption)
    | ((with_reducible apply Br.f); · assumption)
    | ((with_reducible apply Br.dt); · exact ab_known)
    | ((with_reducible apply Br.df); · exact ab_known)
    | (with_reducible first | refine Br.dec (fun hc => ?_) (fun hc => ?_) | refine Br.mk (fun hc => ?_) (fun hc => ?_))
    | ((with_reducible first | apply NeedRows.mk | apply NeedMap.mk | apply NeedIter.mk); · exact ab_look)
    | ((with_reducible apply NeedLen.mk); · first | assumption | rfl)
    | ((with_reducible apply NeedRow.mk); · exact ab_lookR)
    | ((with_reducible apply DrawG.mk (List.replicate 60 false)); · decide +kernel)
    | (with_reducible first | refine NewP.mk (fun id hid => ?_) | refine NilP.mk (fun e he => ?_))
    | (with_reducible first | exact trivial | exact And.intro rfl rfl)
    | ((with_reducible apply PreP.mk); · exact ab_asked)
    | refine Exists.intro _ (PreP.mk (bytesOf_lst _) ?_)
    | refine PreP.mk (lenD_lst _) ?_
    | (with_reducible first | refine PreP.mk ?_ ?_ | refine BothP.mk ?_ ?_)
    | ((with_reducible apply AncOr.anc); · decide +kernel)
    | with_reducible refine AncOr.go ?_)
  refine CallOK.go (a17 hd1 ⟨by simp, by simp, by simp [usedM]; omega, by simp⟩ [102]) (fun r H2 hr => ?_)
  obtain ⟨rfl, ids2, hd2, hg2⟩ := hr
  have hE2 : errM ⟨1, 0, 1000, [⟨[102], a, 0⟩]⟩ [102] = 0 := rfl
  have hM2 : syncM ⟨1, 0, 1000, [⟨[102], a, 0⟩]⟩ [102] = ⟨2, 0, 1000, [⟨[102], a, a.length⟩]⟩ := by unfold syncM; rw [hE2]; rfl
  rw [hM2] at hd2; rw [hE2]
  repeat' (first
    | ((with_reducible apply Onw.mk); conv => whnf)
    | (with_reducible first | apply Br.tt | apply Br.ff | apply Br.no)
    | ((with_reducible apply Br.t); · assumption)
    | ((with_reducible apply Br.f); · assumption)
    | ((with_reducible apply Br.dt); · exact ab_known)
    | ((with_reducible apply Br.df); · exact ab_known)
    | (with_reducible first | refine Br.dec (fun hc => ?_) (fun hc => ?_) | refine Br.mk (fun hc => ?_) (fun hc => ?_))
    | ((with_reducible first | apply NeedRows.mk | apply NeedMap.mk | apply NeedIter.mk); · exact ab_look)
    | ((with_reducible apply NeedLen.mk); · first | assumption | rfl)
    | ((with_reducible apply NeedRow.mk); · exact ab_lookR)
    | ((with_reducible apply DrawG.mk (List.replicate 60 false)); · decide +kernel)
    | (with_reducible first | refine NewP.mk (fun id hid => ?_) | refine NilP.mk (fun e he => ?_))
    | (with_reducible first | exact trivial | exact And.intro rfl rfl)
    | ((with_reducible apply PreP.mk); · exact ab_asked)
    | refine Exists.intro _ (PreP.mk (bytesOf_lst _) ?_)
    | refine PreP.mk (lenD_lst _) ?_
    | (with_reducible first | refine PreP.mk ?_ ?_ | refine BothP.mk ?_ ?_)
    | ((with_reducible apply AncOr.anc); · decide +kernel)
    | with_reducible refine AncOr.go ?_)
  refine CallOK.go (a16 hd2 ⟨by simp, by simp, by simp [usedM]; omega, by simp⟩ [102] b (by decide) (by omega)) (fun r H3 hr => ?_)
  obtain ⟨rfl, ids3, hd3, hg3⟩ := hr
  have hE3 : appendR ⟨2, 0, 1000, [⟨[102], a, a.length⟩]⟩ [102] b = 0 := appR_new rfl (by decide) (by simp [usedM]; omega) (by simp) (by simp) (by simp [usedM]; omega) (by simp)
  have hM3 : appendM ⟨2, 0, 1000, [⟨[102], a, a.length⟩]⟩ [102] b = ⟨3, 0, 1000, [⟨[102], a ++ b, a.length⟩]⟩ := by unfold appendM; rw [hE3]; rfl
  rw [hM3] at hd3; rw [hE3]
  repeat' (first
    | ((with_reducible apply Onw.mk); conv => whnf)
    | (with_reducible first | apply Br.tt | apply Br.ff | apply Br.no)
    | ((with_reducible apply Br.t); · assumption)
    | ((with_reducible apply Br.f); · assumption)
    | ((with_reducible apply Br.dt); · exact ab_known)
    | ((with_reducible apply Br.df); · exact ab_known)
    | (with_reducible first | refine Br.dec (fun hc => ?_) (fun hc => ?_) | refine Br.mk (fun hc => ?_) (fun hc => ?_))
    | ((with_reducible first | apply NeedRows.mk | apply NeedMap.mk | apply NeedIter.mk); · exact ab_look)
    | ((with_reducible apply NeedLen.mk); · first | assumption | rfl)
    | ((with_reducible apply NeedRow.mk); · exact ab_lookR)
    | ((with_reducible apply DrawG.mk (List.replicate 60 false)); · decide +kernel)
    | (with_reducible first | refine NewP.mk (fun id hid => ?_) | refine NilP.mk (fun e he => ?_))
    | (with_reducible first | exact trivial | exact And.intro rfl rfl)
    | ((with_reducible apply PreP.mk); · exact ab_asked)
    | refine Exists.intro _ (PreP.mk (bytesOf_lst _) ?_)
    | refine PreP.mk (lenD_lst _) ?_
    | (with_reducible first | refine PreP.mk ?_ ?_ | refine BothP.mk ?_ ?_)
    | ((with_reducible apply AncOr.anc); · decide +kernel)
    | with_reducible refine AncOr.go ?_)
  refine NewSlice.bytes [c] rfl rfl rfl ?_
  repeat' (first
    | ((with_reducible apply Onw.mk); conv => whnf)
    | (with_reducible first | apply Br.tt | apply Br.ff | apply Br.no)
    | ((with_reducible apply Br.t); · assumption)
    | ((with_reducible apply Br.f); · assumption)
    | ((with_reducible apply Br.dt); · exact ab_known)
    | ((with_reducible apply Br.df); · exact ab_known)
    | (with_reducible first | refine Br.dec (fun hc => ?_) (fun hc => ?_) | refine Br.mk (fun hc => ?_) (fun hc => ?_))
    | ((with_reducible first | apply NeedRows.mk | apply NeedMap.mk | apply NeedIter.mk); · exact ab_look)
    | ((with_reducible apply NeedLen.mk); · first | assumption | rfl)
    | ((with_reducible apply NeedRow.mk); · exact ab_lookR)
    | ((with_reducible apply DrawG.mk (List.replicate 60 false)); · decide +kernel)
    | (with_reducible first | refine NewP.mk (fun id hid => ?_) | refine NilP.mk (fun e he => ?_))
    | (with_reducible first | exact trivial | exact And.intro rfl rfl)
    | ((with_reducible apply PreP.mk); · exact ab_asked)
    | refine Exists.intro _ (PreP.mk (bytesOf_lst _) ?_)
    | refine PreP.mk (lenD_lst _) ?_
    | (with_reducible first | refine PreP.mk ?_ ?_ | refine BothP.mk ?_ ?_)
    | ((with_reducible apply AncOr.anc); · decide +kernel)
    | with_reducible refine AncOr.go ?_)
  refine CallOK.go (a18 hd3 ⟨by simp, by simp, by simp [usedM]; omega, by simp⟩ [c] (by simp)) (fun r H4 hr => ?_)
  obtain ⟨rfl, ids4, hd4, hg4⟩ := hr
  obtain ⟨x, hx, hx1, hx2, hx3, hx4⟩ : ∃ x : List UInt8, x = (a ++ b).take x.length ∧ crashM ⟨3, 0, 1000, [⟨[102], a ++ b, a.length⟩]⟩ [c] = ⟨3, 0, 1000, [⟨[102], x, x.length⟩]⟩ ∧ a.length ≤ x.length ∧ x.length ≤ a.length + b.length ∧ (c = 255 → x.length = a.length + b.length) ∧ (c = 0 → x.length = a.length) := by
    refine ⟨(a ++ b).take (leftN1 c ⟨[102], a ++ b, a.length⟩), ?_, ?_, ?_⟩
    · rw [List.length_take, List.take_eq_take_iff]
      omega
    · simp [crashM, namesM, crashL, crash1]
    · have hle := leftN1_le c ⟨[102], a ++ b, a.length⟩ (by simp)
      have hl : ((a ++ b).take (leftN1 c ⟨[102], a ++ b, a.length⟩)).length = leftN1 c ⟨[102], a ++ b, a.length⟩ := by
        rw [List.length_take]; exact Nat.min_eq_left hle
      rw [hl]
      unfold leftN1 at hle ⊢
      refine ⟨?_, ?_, fun e => ?_, fun e => ?_⟩
      · split
        · simp
        · simp
      · simpa using hle
      · simp [e]
      · subst e
        simp
  rw [hx1] at hd4
  repeat' (first
    | ((with_reducible apply Onw.mk); conv => whnf)
    | (with_reducible first | apply Br.tt | apply Br.ff | apply Br.no)
    | ((with_reducible apply Br.t); · assumption)
    | ((with_reducible apply Br.f); · assumption)
    | ((with_reducible apply Br.dt); · exact ab_known)
    | ((with_reducible apply Br.df); · exact ab_known)
    | (with_reducible first | refine Br.dec (fun hc => ?_) (fun hc => ?_) | refine Br.mk (fun hc => ?_) (fun hc => ?_))
    | ((with_reducible first | apply NeedRows.mk | apply NeedMap.mk | apply NeedIter.mk); · exact ab_look)
    | ((with_reducible apply NeedLen.mk); · first | assumption | rfl)
    | ((with_reducible apply NeedRow.mk); · exact ab_lookR)
    | ((with_reducible apply DrawG.mk (List.replicate 60 false)); · decide +kernel)
    | (with_reducible first | refine NewP.mk (fun id hid => ?_) | refine NilP.mk (fun e he => ?_))
    | (with_reducible first | exact trivial | exact And.intro rfl rfl)
    | ((with_reducible apply PreP.mk); · exact ab_asked)
    | refine Exists.intro _ (PreP.mk (bytesOf_lst _) ?_)
    | refine PreP.mk (lenD_lst _) ?_
    | (with_reducible first | refine PreP.mk ?_ ?_ | refine BothP.mk ?_ ?_)
    | ((with_reducible apply AncOr.anc); · decide +kernel)
    | with_reducible refine AncOr.go ?_)
  refine CallOK.go (a19 hd4 [102]) (fun r H5 hr => ?_)
  obtain ⟨rfl, rfl⟩ := hr
  have hR : readM ⟨3, 0, 1000, [⟨[102], x, x.length⟩]⟩ [102] = .tup [.p (.lst (x.map byteRow)), i64 0] := rfl
  rw [hR]
  have hlx : ((x.map byteRow).length : Int) = x.length := by simp
  have hms : a.length + b.length ≤ maxS := by unfold maxS; omega
  have hab : ((a ++ b).length : Int) = a.length + b.length := by simp
  have hxe : x = List.drop (Int.toNat 0) (List.take (((x.map byteRow).length : Int)).toNat (a ++ b)) := by simpa using hx
  have hc2 : (c.toNat : Int) = 255 → x.length = a.length + b.length := fun e => hx4.1 (by apply UInt8.toNat_inj.1; have : (255 : UInt8).toNat = 255 := rfl; omega)
  have hc3 : (c.toNat : Int) = 0 → x.length = a.length := fun e => hx4.2 (by apply UInt8.toNat_inj.1; have : (0 : UInt8).toNat = 0 := rfl; omega)
  have hM6 : ∀ c' : UInt8, crashM ⟨3, 0, 1000, [⟨[102], x, x.length⟩]⟩ [c'] = ⟨3, 0, 1000, [⟨[102], x, x.length⟩]⟩ := by
    intro c'
    have e : leftN1 c' ⟨[102], x, x.length⟩ = x.length := by
      unfold leftN1
      split
      · rfl
      · simp [Nat.mod_one]
    simp [crashM, namesM, crashL, crash1, e]
  have hcw : [D.p (.int .u8 (IntKind.u8.wrap ((c.toNat : Int) + 1)))] = byteRowD (c + 1) := by
    have := c.toNat_lt
    simp only [byteRowD, List.cons.injEq, D.p.injEq, P.int.injEq, and_true, true_and]
    rw [UInt8.toNat_add]
    unfold IntKind.wrap
    simp [IntKind.bits, IntKind.signed]
  repeat' (first
    | ((with_reducible apply Onw.mk); conv => whnf)
    | (with_reducible first | apply Br.tt | apply Br.ff | apply Br.no)
    | ((with_reducible apply Br.t); · assumption)
    | ((with_reducible apply Br.f); · assumption)
    | ((with_reducible apply Br.dt); · exact ab_known)
    | ((with_reducible apply Br.df); · exact ab_known)
    | (with_reducible first | refine Br.dec (fun hc => ?_) (fun hc => ?_) | refine Br.mk (fun hc => ?_) (fun hc => ?_))
    | ((with_reducible first | apply NeedRows.mk | apply NeedMap.mk | apply NeedIter.mk); · exact ab_look)
    | ((with_reducible apply NeedLen.mk); · first | assumption | rfl)
    | ((with_reducible apply NeedRow.mk); · exact ab_lookR)
    | ((with_reducible apply DrawG.mk (List.replicate 60 false)); · decide +kernel)
    | (with_reducible first | refine NewP.mk (fun id hid => ?_) | refine NilP.mk (fun e he => ?_))
    | (with_reducible first | exact trivial | exact And.intro rfl rfl)
    | ((with_reducible apply PreP.mk); · exact ab_asked)
    | refine Exists.intro _ (PreP.mk (bytesOf_lst _) ?_)
    | refine PreP.mk (lenD_lst _) ?_
    | (with_reducible first | refine PreP.mk ?_ ?_ | refine BothP.mk ?_ ?_)
    | ((with_reducible apply AncOr.anc); · decide +kernel)
    | with_reducible refine AncOr.go ?_)
  all_goals
    refine NewSlice.bytes [c + 1] (congrArg (fun x => [x]) hcw) rfl rfl ?_
    repeat' (first
      | ((with_reducible apply Onw.mk); conv => whnf)
      | (with_reducible first | apply Br.tt | apply Br.ff | apply Br.no)
      | ((with_reducible apply Br.t); · assumption)
      | ((with_reducible apply Br.f); · assumption)
      | ((with_reducible apply Br.dt); · exact ab_known)
      | ((with_reducible apply Br.df); · exact ab_known)
      | (with_reducible first | refine Br.dec (fun hc => ?_) (fun hc => ?_) | refine Br.mk (fun hc => ?_) (fun hc => ?_))
      | ((with_reducible first | apply NeedRows.mk | apply NeedMap.mk | apply NeedIter.mk); · exact ab_look)
      | ((with_reducible apply NeedLen.mk); · first | assumption | rfl)
      | ((with_reducible apply NeedRow.mk); · exact ab_lookR)
      | ((with_reducible apply DrawG.mk (List.replicate 60 false)); · decide +kernel)
      | (with_reducible first | refine NewP.mk (fun id hid => ?_) | refine NilP.mk (fun e he => ?_))
      | (with_reducible first | exact trivial | exact And.intro rfl rfl)
      | ((with_reducible apply PreP.mk); · exact ab_asked)
      | refine Exists.intro _ (PreP.mk (bytesOf_lst _) ?_)
      | refine PreP.mk (lenD_lst _) ?_
      | (with_reducible first | refine PreP.mk ?_ ?_ | refine BothP.mk ?_ ?_)
      | ((with_reducible apply AncOr.anc); · decide +kernel)
      | with_reducible refine AncOr.go ?_)
    refine CallOK.go (a18 hd4 ⟨by simp, by simp, by simp [usedM]; omega, by simp⟩ [c + 1] (by simp)) (fun r H6 hr => ?_)
    obtain ⟨rfl, ids6, hd6, hg6⟩ := hr
    rw [hM6] at hd6
    repeat' (first
      | ((with_reducible apply Onw.mk); conv => whnf)
      | (with_reducible first | apply Br.tt | apply Br.ff | apply Br.no)
      | ((with_reducible apply Br.t); · assumption)
      | ((with_reducible apply Br.f); · assumption)
      | ((with_reducible apply Br.dt); · exact ab_known)
      | ((with_reducible apply Br.df); · exact ab_known)
      | (with_reducible first | refine Br.dec (fun hc => ?_) (fun hc => ?_) | refine Br.mk (fun hc => ?_) (fun hc => ?_))
      | ((with_reducible first | apply NeedRows.mk | apply NeedMap.mk | apply NeedIter.mk); · exact ab_look)
      | ((with_reducible apply NeedLen.mk); · first | assumption | rfl)
      | ((with_reducible apply NeedRow.mk); · exact ab_lookR)
      | ((with_reducible apply DrawG.mk (List.replicate 60 false)); · decide +kernel)
      | (with_reducible first | refine NewP.mk (fun id hid => ?_) | refine NilP.mk (fun e he => ?_))
      | (with_reducible first | exact trivial | exact And.intro rfl rfl)
      | ((with_reducible apply PreP.mk); · exact ab_asked)
      | refine Exists.intro _ (PreP.mk (bytesOf_lst _) ?_)
      | refine PreP.mk (lenD_lst _) ?_
      | (with_reducible first | refine PreP.mk ?_ ?_ | refine BothP.mk ?_ ?_)
      | ((with_reducible apply AncOr.anc); · decide +kernel)
      | with_reducible refine AncOr.go ?_)
    refine CallOK.go (a19 hd6 [102]) (fun r H7 hr => ?_)
    obtain ⟨rfl, rfl⟩ := hr
    rw [hR]
    repeat' (first
      | ((with_reducible apply Onw.mk); conv => whnf)
      | (with_reducible first | apply Br.tt | apply Br.ff | apply Br.no)
      | ((with_reducible apply Br.t); · assumption)
      | ((with_reducible apply Br.f); · assumption)
      | ((with_reducible apply Br.dt); · exact ab_known)
      | ((with_reducible apply Br.df); · exact ab_known)
      | (with_reducible first | refine Br.dec (fun hc => ?_) (fun hc => ?_) | refine Br.mk (fun hc => ?_) (fun hc => ?_))
      | ((with_reducible first | apply NeedRows.mk | apply NeedMap.mk | apply NeedIter.mk); · exact ab_look)
      | ((with_reducible apply NeedLen.mk); · first | assumption | rfl)
      | ((with_reducible apply NeedRow.mk); · exact ab_lookR)
      | ((with_reducible apply DrawG.mk (List.replicate 60 false)); · decide +kernel)
      | (with_reducible first | refine NewP.mk (fun id hid => ?_) | refine NilP.mk (fun e he => ?_))
      | (with_reducible first | exact trivial | exact And.intro rfl rfl)
      | ((with_reducible apply PreP.mk); · exact ab_asked)
      | refine Exists.intro _ (PreP.mk (bytesOf_lst _) ?_)
      | refine PreP.mk (lenD_lst _) ?_
      | (with_reducible first | refine PreP.mk ?_ ?_ | refine BothP.mk ?_ ?_)
      | ((with_reducible apply AncOr.anc); · decide +kernel)
      | with_reducible refine AncOr.go ?_)

  all_goals simp [mkRes]
end Go.Proofs.Ytanknokhbfijdaa
